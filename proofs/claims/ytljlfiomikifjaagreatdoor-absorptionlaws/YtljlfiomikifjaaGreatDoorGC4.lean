/- Texts of this claim, joined (the program, its functions in plain words, and what they compute). -/
import Derived.Test.YtljlfiomikifjaaGreatDoorGC3
set_option autoImplicit false
set_option linter.unusedVariables false
set_option linter.unusedSectionVars false
set_option linter.unusedSimpArgs false
set_option maxRecDepth 1000000
set_option maxHeartbeats 0
noncomputable section
namespace Go.Proofs.YtljlfiomikifjaaGreatDoor
open Go Go.Ab
open Go.Proofs Go.RowKit
open Go.Proofs.Tryz
def zbp (x:yE):Bool×yE:=(decide (SortOK zbh x)&&decide (x.length<20),ziH zbh x)
def zdV:Ab.Spec ty:=zh (cx:=base) (zd (zlZ 100) (zd (ze (vFn 124 zbW)) zr)) fun x=>((zbp x.1).1,⟨[],[some ⟨100,(zbp x.1).2⟩]⟩)
set_option maxHeartbeats 1000000 in
theorem znf:SdP 242 zdV where
 enters:=call242
 calls:=fun avs r hsp w F vs hF ha hsep=>by
  unfold zdV zh at hsp;split at hsp
  ·rename_i x hx;simp only [qa,qb] at hsp;obtain ⟨hpre,rfl⟩:=hsp;have hk:=(zd (zlZ 100) (zd (ze (vFn 124 zbW)) zr):AL base _).kind vs avs x hx;have ha':=(zd (zlZ 100) (zd (ze (vFn 124 zbW)) zr):AL base _).ok Tryz.prog zgL F w vs avs x hx ha;rw [hk] at hsep ⊢;clear hk hx ha;obtain ⟨l0,c,u0⟩:=x;obtain ⟨l,rfl⟩:∃ l:yE,l=l0:=⟨l0,rfl⟩;obtain ⟨v,vs',rfl,hv,hv'⟩:=ha'.inv;obtain ⟨fv,vs'',rfl,hfv,h0⟩:=hv'.inv;obtain rfl:=h0.nil_left.1
   have hsl:∃ p cap,v=.slice p l.length cap:=by
    obtain ⟨⟨xs,hown,_⟩,_⟩:=(show zcW base F w v 100 l∧∀ b,zbg v=some b→¬ F b from hv)
    rcases hown.2 with ⟨h1,h2⟩ | ⟨g0,cap,cur,h1,_⟩
    ·exact ⟨none,0,by rw [h1,show l.length=0 from h2]⟩
    ·exact ⟨_,cap,h1⟩
   have hpre:(decide (SortOK (α:=Wd) zbh l)&&decide (l.length<20))=true:=hpre;simp only [qc,qe] at hpre;obtain ⟨hok,h20⟩:=hpre
   have hpp:(zcA l (l.length:Int)).1=true:=by
    show (decide (SortOK (α:=Wd) zbh l)&&(decide ((l.length:Int)=l.length)&&decide ((l.length:Int)<20)))=true;simp only [qc,qe];exact ⟨hok,trivial,by omega⟩
   have hp:=(zyh).calls [.own 100 l,.pure (.lit (.int .i64 (l.length:Int))),.pure (.fn 124 [])] ⟨[],[some ⟨100,(zbp l).2⟩]⟩
    (by rw [← hpp]; kernel_rfl) w F [v,.int .i64 (l.length:Int),fv] hF (.cons hv (.cons (Rep.lit _) (.cons hfv .nil))) hsep
   replace hp:Calls Tryz.prog 262 #[v,.int .i64 (l.length:Int),fv] w fun e w'=>∃ u,e=.returned u∧Post base F w [v] ⟨[],[some ⟨100,(zbp l).2⟩]⟩ u w':=hp
   show Calls Tryz.prog 242 #[v,fv] w fun e w'=>∃ u,e=.returned u∧Post base F w [v] ⟨[],[some ⟨100,(zbp l).2⟩]⟩ u w'
   generalize (zbp l).2=res at hp ⊢;generalize hn:l.length=m at *;clear hpp hv hfv hsep hok hF;obtain ⟨p,cap,rfl⟩:=hsl;clear hn
   go_enter func242,ntmps242
   go_wp2_with (go_at_call 262; refine hp.mono ?_; rintro e w' ⟨u,rfl,hpost⟩; obtain rfl:=hpost.unit)
   go_end0
   exact ⟨_,rfl,hpost⟩
  ·cases hsp
end Go.Proofs.YtljlfiomikifjaaGreatDoor
namespace Go.Proofs.YtljlfiomikifjaaGreatDoor
open Go Go.Ab
open Go.Proofs.Tryz
abbrev zrD:=Unit×yE×Int×Int×Unit
abbrev zmp:=yE×Unit
def zmv (t6:yE) (t7:Int) (t8:Int) (out_:yE):Wy zrD zmp (yE):=.i (decide (t8<t7)) (.i (decide (0≤t8)&&decide (t8<Int.ofNat t6.length)) (.i (decide (Int.ofNat (t6.getD t8.toNat default).Ann.length>0)) (.bn (zgM (t6.getD t8.toNat default).Ann) fun r0=>.i (decide ((out_.length+[WO.mk (t6.getD t8.toNat default).Value r0].length)*56≤zK)) (.h ((),t6,t7,(IntKind.i64.wrap (t8+1)),()) ((out_++[WO.mk (t6.getD t8.toNat default).Value r0]),())) .d) (.h ((),t6,t7,(IntKind.i64.wrap (t8+1)),()) (out_,()))) .d) (.k out_)
def zyL (x:zrD) (y:zmp):=zmv x.2.1 x.2.2.1 x.2.2.2.1 y.1
def zFM (n:Nat) (t6:yE) (t7:Int) (t8:Int) (out_:yE):=zH (zyL) default n ((),t6,t7,t8,()) (out_,())
def zSK (r:yE):LTree ty:=.done (.exit 0) [.own 116] [.arr 100 r false]
def zVK:LL ty zrD:=za (zd3 116) (za (lSl 100) (za zj (za zj zn)))
def zVn:BL ty zmp:=zed 100 false (zbl)
def zT1 (x:zrD) (y:zmp):Nat:=(x.2.1.length+Int.toNat x.2.2.1+Int.toNat x.2.2.2.1+y.1.length+1)
def zFw:=zb5 base 29 [(87,zgI),(124,zfE),(242,zdV)] [(242,[true,false])] [(3,[(3,.own 100),(6,.keep),(7,.keep),(8,.keep)])] [(3,1,(kpL [3]))] [(3,spW zVK zVn (zyL) default zSK zT1)] []
theorem zTR:zM zFw (lp (body f218) 0):=zw (id:=3) (hl:=rfl)
def zHz (l:yE):Wy0 (yE):=.bn (zFM (l.length+(Int.ofNat l.length).toNat +Int.toNat 0+0+1) l (Int.ofNat l.length) 0 []) fun r3=>.bn (zbp r3) fun r2=>.k r2
def zqT (l:yE):=(zHz l).fin default
def zUq (r:yE):ARes ty:=⟨[.own 100 r],[]⟩
def zXZ:AL base zmp:=zd (ze (vSl 100)) zr
def zDn:=zh zXZ fun x=>((zqT x.1).1,zUq (zqT x.1).2)
theorem zQl:SdP 218 zDn:=
 sT (cx':=zFw) (zi ⟨zi7,zhE,znf,trivial⟩) call218 func218 (lOK (aC zTR aN)) (sg:=⟨[.own 100],[]⟩)
def zRY:=zbq base 7 [(20,zcb)]
def zEZ (w:Wd):Wy0 (Bool):=.bn (zbX w.Ann) fun r0=>.k (!r0)
def znG (w:Wd):=(zEZ w).fin default
def zl0:=zh zKL fun x=>((znG x.1).1,zVj (znG x.1).2)
theorem zqW:SdP 217 zl0:=
 sT (cx':=zRY) (zi ⟨zci,trivial⟩) call217 func217 (lOK aN)
def zVk:=zbq base 28 []
def zHH (op:Int) (sign:Int):Wy0 (Bool):=.i (op==5) (.k (sign==0)) (.i (op==6) (.k (sign != 0)) (.i (op==7) (.k (decide (sign<0))) (.i (op==8) (.k (decide (sign≤0))) (.i (op==9) (.k (decide (sign>0))) (.k (decide (sign≥0)))))))
def zrx (op:Int) (sign:Int):=(zHH op sign).fin default
def zCZ:=zh zVI fun x=>((zrx x.1 x.2.1).1,zVj (zrx x.1 x.2.1).2)
theorem zPc:SdP 219 zCZ:=
 sT (cx':=zVk) (zi trivial) call219 func219 (lOK aN)
abbrev zdL:=yE×Unit×Int×Int×Unit
def zp7 (s:yE) (t7:Int) (t8:Int):Wy zdL (Unit) (Int⊕Unit):=.i (decide (t8<t7)) (.i (decide (0≤t8)&&decide (t8<Int.ofNat s.length)) (.bn (znG (s.getD t8.toNat default)) fun r0=>.i (r0) (.k (.inl t8)) (.h (s,(),t7,(IntKind.i64.wrap (t8+1)),()) ())) .d) (.k (.inr ()))
def zhv (x:zdL) (y:Unit):=zp7 x.1 x.2.2.1 x.2.2.2.1
def zqs (n:Nat) (s:yE) (t7:Int) (t8:Int):=zH (zhv) (.inl default) n (s,(),t7,t8,()) ()
def zqe:LL ty zdL:=za (lSl 100) (za (lFn 217 (zn)) (za zj (za zj zn)))
def zpB (x:zdL) (y:Unit):Nat:=(x.1.length+Int.toNat x.2.2.1+Int.toNat x.2.2.2.1+1)
def zhs:=zb5 base 19 [(217,zl0)] [] [(2,(kpL [0,1,7,8]))] [(2,1,[]),(2,0,(kpL [4]))] [(2,spW zqe z7V (zhv) (.inl default) zsk zpB)] []
theorem zpA:zM zhs (lp (body f163) 0):=zw (id:=2) (hl:=rfl)
def zrc (s:yE):Wy0 (Int):=.bn (zqs (s.length+(Int.ofNat s.length).toNat +Int.toNat 0+1) s (Int.ofNat s.length) 0) fun r2=>.i (isL r2) (.k (getL r2)) (.k (-1:Int))
def zdk (s:yE):=(zrc s).fin default
def zqR:AL base (yE×Unit×Unit):=zd (ze (vSl 100)) (zd (ze (vFn 217 zbW)) zr)
def zgV:=zh zqR fun x=>((zdk x.1).1,zPQ (zdk x.1).2)
theorem zoh:SdP 163 zgV:=
 sT (cx':=zhs) (zi ⟨zqW,trivial⟩) call163 func163 (lOK (aC zpA aN))
def zot:=zbq base 9 [(163,zgV),(217,zl0)]
def zgT (s:yE):Wy0 (Bool):=.bn (zdk s) fun r0=>.k (decide (r0≥0))
def zcd (s:yE):=(zgT s).fin default
def zfW:=zh zqR fun x=>((zcd x.1).1,zVj (zcd x.1).2)
theorem zmY:SdP 132 zfW:=
 sT (cx':=zot) (zi ⟨zoh,zqW,trivial⟩) call132 func132 (lOK aN)
def zYF:=zbq base 45 [(36,zms),(70,zeM),(132,zfW),(135,zsE),(138,zm3),(152,zgD),(217,zl0),(218,zDn),(219,zCZ)]
def zJv (fn:Int) (items:yE) (op:Int) (bound:Value):Wy0 (yC×Int):=.bn (zkB fn items op bound) fun r5=>.i (!r5) (.k ([],1)) (.bn (zcd items) fun r4=>.i (r4) (.k ([],1)) (.bn (zqT items) fun r3=>.i (decide (Int.ofNat r3.length>0)) (.bn (zeu (zfr (At.mk 4 (RowID.mk 0 0) [] fn r3 op bound)).2) fun r0=>.k (r0.1,r0.2)) (.i (fn==0) (.bn (zjg 0 bound.Int) fun r2=>.bn (zrx op r2) fun r1=>.i (r1) (.k (zki.2,0)) (.k ([],0))) (.k ([],0)))))
def znV (fn:Int) (items:yE) (op:Int) (bound:Value):=(zJv fn items op bound).fin default
def zD8:=zh zTQ fun x=>((znV x.1 x.2.1 x.2.2.1 x.2.2.2.1).1,zPN (znV x.1 x.2.1 x.2.2.1 x.2.2.2.1).2)
theorem zSf:SdP 180 zD8:=
 sT (cx':=zYF) (zi ⟨zpm,zfN,zmY,zz3,zsl,ziU,zqW,zQl,zPc,trivial⟩) call180 func180 (lOK aN) (sg:=⟨[.own 28,.pure],[]⟩)
abbrev zkE:=((yG×Unit)×Unit)×Unit×Unit×yA×Int×Int×Unit
abbrev zkI:=At×yA×Unit
abbrev zyW:=Int⊕(yG×At×yA)
abbrev zkH:=((yG×Unit)×Unit)×Unit×Unit×yE×Int×Int×Unit
abbrev zkK:=At×yE×Unit
abbrev zyZ:=Int⊕(At×yE)
def znd (zT:yC→yG→Bool×(yC×Int)) (to:yG) (t24:yA) (t25:Int) (t26:Int) (x_:At) (args:yA):Wy zkE zkI zyW:=.i (decide (t26<t25)) (.i (decide (0≤t26)&&decide (t26<Int.ofNat t24.length)) (.bn (zT (t24.getD t26.toNat default) to) fun r2=>.i (r2.2 != 0) (.k (.inl (r2.2))) (.i (decide ((args.length+[r2.1].length)*24≤zK)) (.h (((to,()),()),(),(),t24,t25,(IntKind.i64.wrap (t26+1)),()) (x_,(args++[r2.1]),())) .d)) .d) (.k (.inr (to,x_,args)))
def zwx (zT:yC→yG→Bool×(yC×Int)) (x:zkE) (y:zkI):=znd zT x.1.1.1 x.2.2.2.1 x.2.2.2.2.1 x.2.2.2.2.2.1 y.1 y.2.1
def zjv (zT:yC→yG→Bool×(yC×Int)) (n:Nat) (to:yG) (t24:yA) (t25:Int) (t26:Int) (x_:At) (args:yA):=zH (zwx zT) (.inl default) n (((to,()),()),(),(),t24,t25,t26,()) (x_,args,())
def zFT (r:zyW):LTree ty:=.ite (isL r) (.done .ret [.lit (.slice none 0 0),.lit (.int .i64 (getL r))] []) (.done (.exit 0) [.fn 84 ([.bptr ([.sl 51 (getR r).1]) 0]),.ptr 432 0,.own 433] [.box (base.enc 67 (getR r).2.1) false,.arr 23 (getR r).2.2 false])
def zHp:LL ty zkE:=za (lFn 84 (za (znx (za (lSl 51) zn) 0) zn)) (za (zft 432 0) (za (zd3 433) (za (lSl 23) (za zj (za zj zn)))))
def zGZ:BL ty zkI:=zjh (zhh (fun x=>(⟨x.1,⟨x.2.1,x.2.2.1⟩,x.2.2.2.1,x.2.2.2.2.1,x.2.2.2.2.2.1,x.2.2.2.2.2.2.1,⟨x.2.2.2.2.2.2.2.1,x.2.2.2.2.2.2.2.2.1,x.2.2.2.2.2.2.2.2.2.1⟩⟩:At)) (fun x=>(x.Kind,x.Row.Table,x.Row.Seq,x.Ag,x.Func,x.Items,x.Op,x.Bd.Kind,x.Bd.Int,x.Bd.Text,())) (fun _=>rfl) (za (zR .i64) (za (zR .i64) (za (zR .i64) (za (lSl 23) (za (zR .i64) (za (lSl 100) (za (zR .i64) (za (zR .i64) (za (zR .i64) (za zrl zn))))))))))) false (zed 23 false (zbl))
def zmK (zT:yC→yG→Bool×(yC×Int)) (to:yG) (t74:yE) (t75:Int) (t76:Int) (x_:At) (items:yE):Wy zkH zkK zyZ:=.i (decide (t76<t75)) (.i (decide (0≤t76)&&decide (t76<Int.ofNat t74.length)) (.bn (zT (t74.getD t76.toNat default).Ann to) fun r4=>.i (r4.2 != 0) (.k (.inl (r4.2))) (.i (decide ((items.length+[WO.mk (t74.getD t76.toNat default).Value r4.1].length)*56≤zK)) (.h (((to,()),()),(),(),t74,t75,(IntKind.i64.wrap (t76+1)),()) (x_,(items++[WO.mk (t74.getD t76.toNat default).Value r4.1]),())) .d)) .d) (.k (.inr (x_,items)))
def zvV (zT:yC→yG→Bool×(yC×Int)) (x:zkH) (y:zkK):=zmK zT x.1.1.1 x.2.2.2.1 x.2.2.2.2.1 x.2.2.2.2.2.1 y.1 y.2.1
def ziB (zT:yC→yG→Bool×(yC×Int)) (n:Nat) (to:yG) (t74:yE) (t75:Int) (t76:Int) (x_:At) (items:yE):=zH (zvV zT) (.inl default) n (((to,()),()),(),(),t74,t75,t76,()) (x_,items,())
def zFn (r:zyZ):LTree ty:=.ite (isL r) (.done .ret [.lit (.slice none 0 0),.lit (.int .i64 (getL r))] []) (.done (.exit 3) [.ptr 432 0,.own 433] [.box (base.enc 67 (getR r).1) false,.arr 100 (getR r).2 false])
def zGp:LL ty zkH:=za (lFn 84 (za (znx (za (lSl 51) zn) 0) zn)) (za (zft 432 0) (za (zd3 433) (za (lSl 100) (za zj (za zj zn)))))
def zFU:BL ty zkK:=zjh (zhh (fun x=>(⟨x.1,⟨x.2.1,x.2.2.1⟩,x.2.2.2.1,x.2.2.2.2.1,x.2.2.2.2.2.1,x.2.2.2.2.2.2.1,⟨x.2.2.2.2.2.2.2.1,x.2.2.2.2.2.2.2.2.1,x.2.2.2.2.2.2.2.2.2.1⟩⟩:At)) (fun x=>(x.Kind,x.Row.Table,x.Row.Seq,x.Ag,x.Func,x.Items,x.Op,x.Bd.Kind,x.Bd.Int,x.Bd.Text,())) (fun _=>rfl) (za (zR .i64) (za (zR .i64) (za (zR .i64) (za (lSl 23) (za (zR .i64) (za (lSl 100) (za (zR .i64) (za (zR .i64) (za (zR .i64) (za zrl zn))))))))))) false (zed 100 false (zbl))
def zGB (x:zkE) (y:zkI):Nat:=(x.1.1.1.length+x.2.2.2.1.length+Int.toNat x.2.2.2.2.1+Int.toNat x.2.2.2.2.2.1+y.1.Ag.length+y.1.Items.length+y.2.1.length+1)
def zFc (x:zkH) (y:zkK):Nat:=(x.1.1.1.length+x.2.2.2.1.length+Int.toNat x.2.2.2.2.1+Int.toNat x.2.2.2.2.2.1+y.1.Ag.length+y.1.Items.length+y.2.1.length+1)
def znC (zT:yC→yG→Bool×(yC×Int)):=zb5 zbP 108 [(83,(zlp zT)),(84,zhD),(177,zDu),(178,zDD),(179,zCm),(180,zD8)] [] [(5,[(1,.keep),(2,.keep),(6,.own 23),(24,.keep),(25,.keep),(26,.keep)]),(21,[(1,.keep),(2,.keep),(11,.own 100),(74,.keep),(75,.keep),(76,.keep)])] [(5,1,(kpL [1,2,6])),(5,0,(kpL [4,5])),(21,4,(kpL [2,11])),(21,0,(kpL [4,5]))] [(5,spW zHp zGZ (zwx zT) (.inl default) zFT zGB),(21,spW zGp zFU (zvV zT) (.inl default) zFn zFc)] []
theorem zGG (zT:yC→yG→Bool×(yC×Int)):zM (znC zT) (lp (body f150) 0):=zw (id:=5) (hl:=rfl)
theorem zE9 (zT:yC→yG→Bool×(yC×Int)):zM (znC zT) (lp (body f150) 1):=zw (id:=21) (hl:=rfl)
def zxM (zT:yC→yG→Bool×(yC×Int)) (x_:At) (to:yG):Wy0 (yC×Int):=.i (x_.Kind==0) (.bn (zhW x_.Row to) fun r6=>.k (r6,0)) (.bn (zjv zT (to.length+x_.Ag.length+(Int.ofNat x_.Ag.length).toNat +Int.toNat 0+x_.Ag.length+x_.Items.length+0+1) to x_.Ag (Int.ofNat x_.Ag.length) 0 (At.mk x_.Kind x_.Row x_.Ag x_.Func x_.Items x_.Op x_.Bd) []) fun r12=>.i (isL r12) (.k ([],getL r12)) (.i ((getR r12).2.1.Kind==1) (.i (decide ((0:Int)≤(0:Int))&&decide (0<Int.ofNat (getR r12).2.2.length)) (.i (decide ((0:Int)≤(1:Int))&&decide (1<Int.ofNat (getR r12).2.2.length)) (.bn (zqE ((getR r12).2.2.getD (Int.toNat 0) default) ((getR r12).2.2.getD (Int.toNat 1) default)) fun r7=>.k (r7.1,r7.2)) .d) .d) (.i ((getR r12).2.1.Kind==2) (.i (decide ((0:Int)≤(0:Int))&&decide (0<Int.ofNat (getR r12).2.2.length)) (.bn (zqy ((getR r12).2.2.getD (Int.toNat 0) default)) fun r8=>.k (r8.1,r8.2)) .d) (.i ((getR r12).2.1.Kind==3) (.i (decide ((0:Int)≤(0:Int))&&decide (0<Int.ofNat (getR r12).2.2.length)) (.bn (zoM ((getR r12).2.2.getD (Int.toNat 0) default)) fun r9=>.k (r9.1,r9.2)) .d) (.bn (ziB zT ((getR r12).1.length+(getR r12).2.1.Items.length+(Int.ofNat (getR r12).2.1.Items.length).toNat +Int.toNat 0+(getR r12).2.1.Ag.length+(getR r12).2.1.Items.length+0+1) (getR r12).1 (getR r12).2.1.Items (Int.ofNat (getR r12).2.1.Items.length) 0 (At.mk (getR r12).2.1.Kind (getR r12).2.1.Row (getR r12).2.1.Ag (getR r12).2.1.Func (getR r12).2.1.Items (getR r12).2.1.Op (getR r12).2.1.Bd) []) fun r11=>.i (isL r11) (.k ([],getL r11)) (.bn (znV (getR r11).1.Func (getR r11).2 (getR r11).1.Op (getR r11).1.Bd) fun r10=>.k (r10.1,r10.2)))))))
def zhY (zT:yC→yG→Bool×(yC×Int)) (x_:At) (to:yG):=(zxM zT x_ to).fin default
theorem zEF (zT:yC→yG→Bool×(yC×Int)) (zPF:Sound Tryz.prog zbP 83 (zlp zT)):Sound Tryz.prog zbP 150 (zlu (zhY zT)):=
 sU (cx':=(znC zT)) (zi ⟨zPF,zlo.nodr,zO4.nodr,zPB.nodr,zNy.nodr,zSf.nodr,trivial⟩) call150 func150 (lOK (aC (zGG zT) (aC (zE9 zT) aN))) (sg:=⟨[.own 28,.pure],[]⟩)
def zGR:Nat→(yC→yG→Bool×(yC×Int))×(At→yG→Bool×(yC×Int))
 | 0=>(fun _ _=>(false,default),fun _ _=>(false,default))
 | n+1=>(zlw ((zGR n).2),zhY ((zGR n).1))
def zlr (n:Nat):yC→yG→Bool×(yC×Int):=(zGR n).1
def zh4 (n:Nat):At→yG→Bool×(yC×Int):=(zGR n).2
theorem zNV (n:Nat):zlr (n+1)=zlw (zh4 n):=rfl
theorem zG0 (n:Nat):zh4 (n+1)=zhY (zlr n):=rfl
theorem zU5:∀ n,Sound Tryz.prog zbP 83 (zlp (zlr n))∧Sound Tryz.prog zbP 150 (zlu (zh4 n))
 | 0=>⟨z8 call83 (fun _=>rfl),z8 call150 (fun _=>rfl)⟩
 | n+1=>by
  have ih:=zU5 n;exact ⟨zIs _ (ih.2),zEF _ (ih.1)⟩
def zzN:yC→yG→Bool×(yC×Int):=zlr 1000
def zBa:Ab.Spec ty:=zlp zzN
theorem zMw:Sound Tryz.prog zbP 83 zBa:=(zU5 1000).1
def zH7:=zbq base 7 [(20,zcb)]
def zx9 (b:Bg):Wy0 (Bool):=.bn (zbX b.To) fun r0=>.k (!r0)
def zh5 (b:Bg):=(zx9 b).fin default
def zIY:AL base (Bg×Unit):=zd (ze (zcG 51)) zr
def zhB:=zh zIY fun x=>((zh5 x.1).1,zVj (zh5 x.1).2)
theorem zk8:SdP 82 zhB:=
 sT (cx':=zH7) (zi ⟨zci,trivial⟩) call82 func82 (lOK aN)
abbrev zdX:=yG×Unit×Int×Int×Unit
def zsb (s:yG) (t7:Int) (t8:Int):Wy zdX (Unit) (Int⊕Unit):=.i (decide (t8<t7)) (.i (decide (0≤t8)&&decide (t8<Int.ofNat s.length)) (.bn (zh5 (s.getD t8.toNat default)) fun r0=>.i (r0) (.k (.inl t8)) (.h (s,(),t7,(IntKind.i64.wrap (t8+1)),()) ())) .d) (.k (.inr ()))
def zit (x:zdX) (y:Unit):=zsb x.1 x.2.2.1 x.2.2.2.1
def zrW (n:Nat) (s:yG) (t7:Int) (t8:Int):=zH (zit) (.inl default) n (s,(),t7,t8,()) ()
def zrU:LL ty zdX:=za (lSl 51) (za (lFn 82 (zn)) (za zj (za zj zn)))
def zry (x:zdX) (y:Unit):Nat:=(x.1.length+Int.toNat x.2.2.1+Int.toNat x.2.2.2.1+1)
def ziv:=zb5 base 19 [(82,zhB)] [] [(2,(kpL [0,1,7,8]))] [(2,1,[]),(2,0,(kpL [4]))] [(2,spW zrU z7V (zit) (.inl default) zsk zry)] []
theorem zq4:zM ziv (lp (body f85) 0):=zw (id:=2) (hl:=rfl)
def zs5 (s:yG):Wy0 (Int):=.bn (zrW (s.length+(Int.ofNat s.length).toNat +Int.toNat 0+1) s (Int.ofNat s.length) 0) fun r2=>.i (isL r2) (.k (getL r2)) (.k (-1:Int))
def zdF (s:yG):=(zs5 s).fin default
def zsZ:AL base (yG×Unit×Unit):=zd (ze (vSl 51)) (zd (ze (vFn 82 zbW)) zr)
def zhr:=zh zsZ fun x=>((zdF x.1).1,zPQ (zdF x.1).2)
theorem zpN:SdP 85 zhr:=
 sT (cx':=ziv) (zi ⟨zk8,trivial⟩) call85 func85 (lOK (aC zq4 aN))
def zpq:=zbq base 9 [(82,zhB),(85,zhr)]
def zhA (s:yG):Wy0 (Bool):=.bn (zdF s) fun r0=>.k (decide (r0≥0))
def zcj (s:yG):=(zhA s).fin default
def zgu:=zh zsZ fun x=>((zcj x.1).1,zVj (zcj x.1).2)
theorem znK:SdP 81 zgu:=
 sT (cx':=zpq) (zi ⟨zk8,zpN,trivial⟩) call81 func81 (lOK aN)
def zMM:=zbq zbP 18 [(20,zcb),(81,zgu),(82,zhB),(83,zBa),(84,zhD)]
def zBp (a:yC) (l:yG):Wy0 (yC×Int):=.bn (zbX a) fun r2=>.i (!r2) (.k ([],1)) (.bn (zcj l) fun r1=>.i (r1) (.k ([],1)) (.bn (zzN a l) fun r0=>.k (r0.1,r0.2)))
def zkh (a:yC) (l:yG):=(zBp a l).fin default
def zNr:AL zbP (yC×yG×Unit):=zd (ze (vSl 28)) (zd (ze (vSl 51)) zr)
def zxJ:=zh zNr fun x=>((zkh x.1 x.2.1).1,zPN (zkh x.1 x.2.1).2)
theorem zH5:Sound Tryz.prog zbP 29 zxJ:=
 sU (cx':=zMM) (zi ⟨zci.nodr,znK.nodr,zk8.nodr,zMw,zlo.nodr,trivial⟩) call29 func29 (lOK aN) (sg:=⟨[.own 28,.pure],[]⟩)
def zTb:=zbq zbP 11 [(29,zxJ)]
def zFG (a:yC):Wy0 (yC):=.bn (zkh a []) fun r0=>.k r0.1
def zo0 (a:yC):=(zFG a).fin default
def zCk:=zh z0z fun x=>((zo0 x.1).1,zPo (zo0 x.1).2)
theorem zNo:Sound Tryz.prog zbP 68 zCk:=
 sU (cx':=zTb) (zi ⟨zH5,trivial⟩) call68 func68 (lOK aN) (sg:=⟨[.own 28],[]⟩)
def zJU:=zbq base 8 []
def zAr (x_:At):Wy0 (yC):=.k [TO.mk 1 [FO.mk (At.mk x_.Kind x_.Row x_.Ag x_.Func x_.Items x_.Op x_.Bd) 1]]
def zgE (x_:At):=(zAr x_).fin default
def zwE:=zh zCb fun x=>((zgE x.1).1,zPo (zgE x.1).2)
theorem zGz:SdP 104 zwE:=
 sT (cx':=zJU) (zi trivial) call104 func104 (lOK aN) (sg:=⟨[.own 28],[]⟩)
def zQh:=zbq base 13 [(21,zkv),(104,zwE)]
def zDa (x_:At) (y_:At):Wy0 (Bool):=.bn (zcv (zgE (At.mk x_.Kind x_.Row x_.Ag x_.Func x_.Items x_.Op x_.Bd)).2 (zgE (At.mk y_.Kind y_.Row y_.Ag y_.Func y_.Items y_.Op y_.Bd)).2) fun r0=>.k r0
def zmt (x_:At) (y_:At):=(zDa x_ y_).fin default
def zAq:=zh zJZ fun x=>((zmt x.1 x.2.1).1,zVj (zmt x.1 x.2.1).2)
theorem zKp:SdP 52 zAq:=
 sT (cx':=zQh) (zi ⟨zm7,zGz,trivial⟩) call52 func52 (lOK aN)
def zHL:=zbq base 16 [(52,zAq)]
def zyb (g:Fc) (p1:Fc):Wy0 (Bool):=.i (decide (p1.Exp≤g.Exp)) (.bn (zmt (At.mk p1.At.Kind p1.At.Row p1.At.Ag p1.At.Func p1.At.Items p1.At.Op p1.At.Bd) (At.mk g.At.Kind g.At.Row g.At.Ag g.At.Func g.At.Items g.At.Op g.At.Bd)) fun r0=>.k r0) (.k false)
def zeB (g:Fc) (p1:Fc):=(zyb g p1).fin default
def zJo:AL base (Fc×Fc×Unit):=zd (ze (zcG 69)) (zd (ze (zzh 69)) zr)
def zhC:=zh zJo fun x=>((zeB x.1 x.2.1).1,zVj (zeB x.1 x.2.1).2)
theorem zk4:SdP 51 zhC:=
 sT (cx':=zHL) (zi ⟨zKp,trivial⟩) call51 func51 (lOK aN)
abbrev zep:=yD×(Fc×Unit)×Int×Int×Unit
def zjy (s:yD) (f:Fc) (t7:Int) (t8:Int):Wy zep (Unit) (Int⊕Unit):=.i (decide (t8<t7)) (.i (decide (0≤t8)&&decide (t8<Int.ofNat s.length)) (.bn (zeB (FO.mk (At.mk (s.getD t8.toNat default).At.Kind (s.getD t8.toNat default).At.Row (s.getD t8.toNat default).At.Ag (s.getD t8.toNat default).At.Func (s.getD t8.toNat default).At.Items (s.getD t8.toNat default).At.Op (s.getD t8.toNat default).At.Bd) (s.getD t8.toNat default).Exp) (FO.mk (At.mk f.At.Kind f.At.Row f.At.Ag f.At.Func f.At.Items f.At.Op f.At.Bd) f.Exp)) fun r0=>.i (r0) (.k (.inl t8)) (.h (s,(f,()),t7,(IntKind.i64.wrap (t8+1)),()) ())) .d) (.k (.inr ()))
def zdz (x:zep) (y:Unit):=zjy x.1 x.2.1.1 x.2.2.1 x.2.2.2.1
def zjq (n:Nat) (s:yD) (f:Fc) (t7:Int) (t8:Int):=zH (zdz) (.inl default) n (s,(f,()),t7,t8,()) ()
def zt1:LL ty zep:=za (lSl 69) (za (lFn 51 (za (znx (zhh (fun x=>(⟨⟨x.1,⟨x.2.1,x.2.2.1⟩,x.2.2.2.1,x.2.2.2.2.1,x.2.2.2.2.2.1,x.2.2.2.2.2.2.1,⟨x.2.2.2.2.2.2.2.1,x.2.2.2.2.2.2.2.2.1,x.2.2.2.2.2.2.2.2.2.1⟩⟩,x.2.2.2.2.2.2.2.2.2.2.1⟩:Fc)) (fun x=>(x.At.Kind,x.At.Row.Table,x.At.Row.Seq,x.At.Ag,x.At.Func,x.At.Items,x.At.Op,x.At.Bd.Kind,x.At.Bd.Int,x.At.Bd.Text,x.Exp,())) (fun _=>rfl) (za zj (za zj (za zj (za (lSl 23) (za zj (za (lSl 100) (za zj (za zj (za zj (za zrl (za zj zn)))))))))))) 0) zn)) (za zj (za zj zn)))
def zsL (x:zep) (y:Unit):Nat:=(x.1.length+x.2.1.1.At.Ag.length+x.2.1.1.At.Items.length+Int.toNat x.2.2.1+Int.toNat x.2.2.2.1+1000)
def zjz:=zb5 base 19 [(51,zhC)] [] [(2,(kpL [0,1,7,8]))] [(2,1,[]),(2,0,(kpL [4]))] [(2,spW zt1 z7V (zdz) (.inl default) zsk zsL)] []
theorem zsN:zM zjz (lp (body f103) 0):=zw (id:=2) (hl:=rfl)
def zjX (s:yD) (f:Fc):Wy0 (Int):=.bn (zjq (s.length+f.At.Ag.length+f.At.Items.length+(Int.ofNat s.length).toNat +Int.toNat 0+1000) s (FO.mk (At.mk f.At.Kind f.At.Row f.At.Ag f.At.Func f.At.Items f.At.Op f.At.Bd) f.Exp) (Int.ofNat s.length) 0) fun r2=>.i (isL r2) (.k (getL r2)) (.k (-1:Int))
def zcR (s:yD) (f:Fc):=(zjX s f).fin default
def zuC:AL base (yD×(Fc×Unit)×Unit):=zd (ze (vSl 69)) (zd (ze (vFn 51 (zdA (zzh 69) zbW))) zr)
def zim:=zh zuC fun x=>((zcR x.1 x.2.1.1).1,zPQ (zcR x.1 x.2.1.1).2)
theorem zrC:SdP 103 zim:=
 sT (cx':=zjz) (zi ⟨zk4,trivial⟩) call103 func103 (lOK (aC zsN aN))
def zrd:=zbq base 9 [(51,zhC),(103,zim)]
def zij (s:yD) (f:Fc):Wy0 (Bool):=.bn (zcR s (FO.mk (At.mk f.At.Kind f.At.Row f.At.Ag f.At.Func f.At.Items f.At.Op f.At.Bd) f.Exp)) fun r0=>.k (decide (r0≥0))
def zcw (s:yD) (f:Fc):=(zij s f).fin default
def zhc:=zh zuC fun x=>((zcw x.1 x.2.1.1).1,zVj (zcw x.1 x.2.1.1).2)
theorem zoN:SdP 49 zhc:=
 sT (cx':=zrd) (zi ⟨zk4,zrC,trivial⟩) call49 func49 (lOK aN)
def zLw:=zbq base 9 [(49,zhc),(51,zhC)]
def zBc (f:Fc) (p1:Term):Wy0 (Bool):=.bn (zcw p1.Fs (FO.mk (At.mk f.At.Kind f.At.Row f.At.Ag f.At.Func f.At.Items f.At.Op f.At.Bd) f.Exp)) fun r0=>.k (!r0)
def zfI (f:Fc) (p1:Term):=(zBc f p1).fin default
def zNL:AL base (Fc×Term×Unit):=zd (ze (zcG 69)) (zd (ze (zzh 28)) zr)
def zj6:=zh zNL fun x=>((zfI x.1 x.2.1).1,zVj (zfI x.1 x.2.1).2)
theorem znI:SdP 50 zj6:=
 sT (cx':=zLw) (zi ⟨zoN,zk4,trivial⟩) call50 func50 (lOK aN)
abbrev zey:=yD×(Term×Unit)×Int×Int×Unit
def zjD (s:yD) (f:Term) (t7:Int) (t8:Int):Wy zey (Unit) (Int⊕Unit):=.i (decide (t8<t7)) (.i (decide (0≤t8)&&decide (t8<Int.ofNat s.length)) (.bn (zfI (FO.mk (At.mk (s.getD t8.toNat default).At.Kind (s.getD t8.toNat default).At.Row (s.getD t8.toNat default).At.Ag (s.getD t8.toNat default).At.Func (s.getD t8.toNat default).At.Items (s.getD t8.toNat default).At.Op (s.getD t8.toNat default).At.Bd) (s.getD t8.toNat default).Exp) f) fun r0=>.i (r0) (.k (.inl t8)) (.h (s,(f,()),t7,(IntKind.i64.wrap (t8+1)),()) ())) .d) (.k (.inr ()))
def zdH (x:zey) (y:Unit):=zjD x.1 x.2.1.1 x.2.2.1 x.2.2.2.1
def zjT (n:Nat) (s:yD) (f:Term) (t7:Int) (t8:Int):=zH (zdH) (.inl default) n (s,(f,()),t7,t8,()) ()
def zuH:LL ty zey:=za (lSl 69) (za (lFn 50 (za (znx (zhh (fun x=>(⟨x.1,x.2.1⟩:Term)) (fun x=>(x.Cf,x.Fs,())) (fun _=>rfl) (za zj (za (lSl 69) zn))) 0) zn)) (za zj (za zj zn)))
def ztz (x:zey) (y:Unit):Nat:=(x.1.length+x.2.1.1.Fs.length+Int.toNat x.2.2.1+Int.toNat x.2.2.2.1+1000)
def zjY:=zb5 base 19 [(50,zj6)] [] [(2,(kpL [0,1,7,8]))] [(2,1,[]),(2,0,(kpL [4]))] [(2,spW zuH z7V (zdH) (.inl default) zsk ztz)] []
theorem ztJ:zM zjY (lp (body f103) 0):=zw (id:=2) (hl:=rfl)
def zj8 (s:yD) (f:Term):Wy0 (Int):=.bn (zjT (s.length+f.Fs.length+(Int.ofNat s.length).toNat +Int.toNat 0+1000) s f (Int.ofNat s.length) 0) fun r2=>.i (isL r2) (.k (getL r2)) (.k (-1:Int))
def zc1 (s:yD) (f:Term):=(zj8 s f).fin default
def zuQ:AL base (yD×(Term×Unit)×Unit):=zd (ze (vSl 69)) (zd (ze (vFn 50 (zdA (zzh 28) zbW))) zr)
def ziV:=zh zuQ fun x=>((zc1 x.1 x.2.1.1).1,zPQ (zc1 x.1 x.2.1.1).2)
theorem zr1:SdP 103 ziV:=
 sT (cx':=zjY) (zi ⟨znI,trivial⟩) call103 func103 (lOK (aC ztJ aN))
def zsa:=zbq base 9 [(50,zj6),(103,ziV)]
def ziT (s:yD) (f:Term):Wy0 (Bool):=.bn (zc1 s f) fun r0=>.k (decide (r0≥0))
def zcB (s:yD) (f:Term):=(ziT s f).fin default
def zhu:=zh zuQ fun x=>((zcB x.1 x.2.1.1).1,zVj (zcB x.1 x.2.1.1).2)
theorem zpg:SdP 49 zhu:=
 sT (cx':=zsa) (zi ⟨znI,zr1,trivial⟩) call49 func49 (lOK aN)
def zQX:=zbq base 10 [(49,zhu),(50,zj6)]
def zEc (a:Term) (b:Term):Wy0 (Bool):=.bn (zcB a.Fs b) fun r0=>.k (!r0)
def zf0 (a:Term) (b:Term):=(zEc a b).fin default
def zl7:=zh zNY fun x=>((zf0 x.1 x.2.1).1,zVj (zf0 x.1 x.2.1).2)
theorem zq7:SdP 14 zl7:=
 sT (cx':=zQX) (zi ⟨zpg,znI,trivial⟩) call14 func14 (lOK aN)
abbrev zoe:=yC×Unit×Int×Unit×yC×Int×Int×yC×Int×Int×Unit
abbrev znX:=yC×Term×Unit
abbrev zDw:=(yC×yC×Int×Int×yC)⊕(yC×yC×Int×Int×yC×Term)
abbrev zn8:=yC×Unit×yC×Int×Int×Unit
abbrev zkz:=yC×Unit
def zvd (a:yC) (i:Int) (t8:yC) (t9:Int) (t10:Int) (t15:yC) (t16:Int) (t17:Int) (out_:yC) (t:Term):Wy zoe znX zDw:=.i (decide (t17<t16)) (.i (decide (0≤t17)&&decide (t17<Int.ofNat t15.length)) (.i (t17 != i) (.bn (zf0 (t15.getD t17.toNat default) t) fun r5=>.i (r5) (.bn (zf0 t (t15.getD t17.toNat default)) fun r4=>.i (!r4) (.k (.inl (a,t8,t9,t10,out_))) (.i (decide (t17<i)) (.k (.inl (a,t8,t9,t10,out_))) (.h (a,(),i,(),t8,t9,t10,t15,t16,(IntKind.i64.wrap (t17+1)),()) (out_,t,())))) (.h (a,(),i,(),t8,t9,t10,t15,t16,(IntKind.i64.wrap (t17+1)),()) (out_,t,()))) (.h (a,(),i,(),t8,t9,t10,t15,t16,(IntKind.i64.wrap (t17+1)),()) (out_,t,()))) .d) (.k (.inr (a,t8,t9,t10,out_,t)))
def zDt (x:zoe) (y:znX):=zvd x.1 x.2.2.1 x.2.2.2.2.1 x.2.2.2.2.2.1 x.2.2.2.2.2.2.1 x.2.2.2.2.2.2.2.1 x.2.2.2.2.2.2.2.2.1 x.2.2.2.2.2.2.2.2.2.1 y.1 y.2.1
def zvB (n:Nat) (a:yC) (i:Int) (t8:yC) (t9:Int) (t10:Int) (t15:yC) (t16:Int) (t17:Int) (out_:yC) (t:Term):=zH (zDt) (.inl default) n (a,(),i,(),t8,t9,t10,t15,t16,t17,()) (out_,t,())
def zPJ (r:zDw):LTree ty:=.ite (isL r) (.done (.exit 1) [.sl 28 ((getL r).1),.own 196,.sl 28 ((getL r).2.1),.lit (.int .i64 ((getL r).2.2.1)),.lit (.int .i64 ((getL r).2.2.2.1))] [.arr 28 ((getL r).2.2.2.2) false]) (.done (.exit 2) [.sl 28 (getR r).1,.own 196,.ptr 197 0,.sl 28 (getR r).2.1,.lit (.int .i64 (getR r).2.2.1),.lit (.int .i64 (getR r).2.2.2.1)] [.arr 28 (getR r).2.2.2.2.1 false,.box (base.enc 28 (getR r).2.2.2.2.2) false])
def zQC:LL ty zoe:=za (lSl 28) (za (zd3 196) (za zj (za (zft 197 0) (za (lSl 28) (za zj (za zj (za (lSl 28) (za zj (za zj zn)))))))))
def zRe:BL ty znX:=zed 28 false (zjh (zhh (fun x=>(⟨x.1,x.2.1⟩:Term)) (fun x=>(x.Cf,x.Fs,())) (fun _=>rfl) (za (zR .i64) (za (lSl 69) zn))) false (zbl))
def zvQ (a:yC) (t8:yC) (t9:Int) (t10:Int) (out_:yC):Wy zn8 zkz (yC):=.i (decide (t10<t9)) (.i (decide (0≤t10)&&decide (t10<Int.ofNat t8.length)) (.bn (zvB (a.length+t10.toNat +t8.length+t9.toNat +t10.toNat +a.length+(Int.ofNat a.length).toNat +Int.toNat 0+out_.length+(t8.getD t10.toNat default).Fs.length+1000) a t10 t8 t9 t10 a (Int.ofNat a.length) 0 out_ (t8.getD t10.toNat default)) fun r8=>.i (isL r8) (.h (((getL r8).1),(),((getL r8).2.1),((getL r8).2.2.1),(IntKind.i64.wrap ((getL r8).2.2.2.1+1)),()) (((getL r8).2.2.2.2),())) (.i (decide (((getR r8).2.2.2.2.1.length+[TO.mk 1 (getR r8).2.2.2.2.2.Fs].length)*32≤zK)) (.h ((getR r8).1,(),(getR r8).2.1,(getR r8).2.2.1,(IntKind.i64.wrap ((getR r8).2.2.2.1+1)),()) (((getR r8).2.2.2.2.1++[TO.mk 1 (getR r8).2.2.2.2.2.Fs]),())) .d)) .d) (.k out_)
def zCY (x:zn8) (y:zkz):=zvQ x.1 x.2.2.1 x.2.2.2.1 x.2.2.2.2.1 y.1
def zvn (n:Nat) (a:yC) (t8:yC) (t9:Int) (t10:Int) (out_:yC):=zH (zCY) default n (a,(),t8,t9,t10,()) (out_,())
def zPI (r:yC):LTree ty:=.done (.exit 0) [.own 196] [.arr 28 r false]
def zQ6:LL ty zn8:=za (lSl 28) (za (zd3 196) (za (lSl 28) (za zj (za zj zn))))
def zQT:BL ty zkz:=zed 28 false (zbl)
def zQd (x:zoe) (y:znX):Nat:=(x.1.length+Int.toNat x.2.2.1+x.2.2.2.2.1.length+Int.toNat x.2.2.2.2.2.1+Int.toNat x.2.2.2.2.2.2.1+x.2.2.2.2.2.2.2.1.length+Int.toNat x.2.2.2.2.2.2.2.2.1+Int.toNat x.2.2.2.2.2.2.2.2.2.1+y.1.length+y.2.1.Fs.length+1000)
def zPg (x:zn8) (y:zkz):Nat:=(x.1.length+x.2.2.1.length+Int.toNat x.2.2.2.1+Int.toNat x.2.2.2.2.1+y.1.length+1000)
def zvx:=zb5 base 49 [(14,zl7)] [] [(3,[(0,.keep),(3,.own 28),(8,.keep),(9,.keep),(10,.keep)]),(6,(kpL [0,3,4,5,8,9,10,15,16,17]))] [(3,1,(kpL [3])),(6,3,(kpL [0,3,5,8,9,10])),(6,2,(kpL [0,3,8,9,10]))] [(6,spW zQC zRe (zDt) (.inl default) zPJ zQd),(3,spW zQ6 zQT (zCY) default zPI zPg)] []
theorem zPP:zM zvx (lp (body f69) 1):=zw (id:=6) (hl:=rfl)
theorem zPR:zM zvx (lp (body f69) 0):=zw (id:=3) (hl:=rfl)
def zEl (a:yC):Wy0 (yC):=.bn (zvn (a.length+a.length+(Int.ofNat a.length).toNat +Int.toNat 0+0+1000) a a (Int.ofNat a.length) 0 []) fun r10=>.k r10
def zno (a:yC):=(zEl a).fin default
def zTn:AL base zkz:=zd (ze (vSl 28)) zr
def zBy:=zh zTn fun x=>((zno x.1).1,zPo (zno x.1).2)
theorem zLJ:SdP 69 zBy:=
 sT (cx':=zvx) (zi ⟨zq7,trivial⟩) call69 func69 (lOK (aC zPR (aC zPP aN))) (sg:=⟨[.own 28],[]⟩)
def zTS:=zbq zbP 9 [(20,zcb),(68,zCk),(69,zBy)]
def zFC (a:yC):Wy0 (yC):=.bn (zbX a) fun r2=>.i (!r2) (.k []) (.bn (zno a) fun r1=>.bn (zo0 r1) fun r0=>.k r0)
def zfs (a:yC):=(zFC a).fin default
def zjZ:=zh z0z fun x=>((zfs x.1).1,zPo (zfs x.1).2)
theorem zma:Sound Tryz.prog zbP 22 zjZ:=
 sU (cx':=zTS) (zi ⟨zci.nodr,zNo,zLJ.nodr,trivial⟩) call22 func22 (lOK aN) (sg:=⟨[.own 28],[]⟩)
def zZ1:=zbq zbP 17 [(22,zjZ),(23,zyB)]
def zK7 (a:yC) (b:yC):Wy0 (yC×Int):=.bn (zqw a b) fun r1=>.bn (zfs r1.1) fun r0=>.k (r0,r1.2)
def ziK (a:yC) (b:yC):=(zK7 a b).fin default
def zFp:=zh z1v fun x=>((ziK x.1 x.2.1).1,zPN (ziK x.1 x.2.1).2)
theorem zTv:Sound Tryz.prog zbP 35 zFp:=
 sU (cx':=zZ1) (zi ⟨zma,zEe,trivial⟩) call35 func35 (lOK aN) (sg:=⟨[.own 28,.pure],[]⟩)
def z0s:=zbq zbP 17 [(22,zjZ),(92,zyR)]
def zMs (a:yC) (b:yC):Wy0 (yC×Int):=.bn (zqu a b) fun r1=>.bn (zfs r1.1) fun r0=>.k (r0,r1.2)
def zqj (a:yC) (b:yC):=(zMs a b).fin default
def zFH:=zh z1v fun x=>((zqj x.1 x.2.1).1,zPN (zqj x.1 x.2.1).2)
theorem zT6:Sound Tryz.prog zbP 37 zFH:=
 sU (cx':=z0s) (zi ⟨zma,zDT,trivial⟩) call37 func37 (lOK aN) (sg:=⟨[.own 28,.pure],[]⟩)
def zIM:=zbq base 7 [(14,zl7)]
def zJ5 (u:Term) (p1:Term):Wy0 (Bool):=.bn (zf0 u p1) fun r0=>.k r0
def zsJ (u:Term) (p1:Term):=(zJ5 u p1).fin default
def zKT:AL base (Term×Term×Unit):=zd (ze (zcG 28)) (zd (ze (zzh 28)) zr)
def ziw:=zh zKT fun x=>((zsJ x.1 x.2.1).1,zVj (zsJ x.1 x.2.1).2)
theorem zlR:SdP 61 ziw:=
 sT (cx':=zIM) (zi ⟨zq7,trivial⟩) call61 func61 (lOK aN)
abbrev zea:=yC×(Term×Unit)×Int×Int×Unit
def zsw (s:yC) (f:Term) (t7:Int) (t8:Int):Wy zea (Unit) (Int⊕Unit):=.i (decide (t8<t7)) (.i (decide (0≤t8)&&decide (t8<Int.ofNat s.length)) (.bn (zsJ (s.getD t8.toNat default) f) fun r0=>.i (r0) (.k (.inl t8)) (.h (s,(f,()),t7,(IntKind.i64.wrap (t8+1)),()) ())) .d) (.k (.inr ()))
def ziW (x:zea) (y:Unit):=zsw x.1 x.2.1.1 x.2.2.1 x.2.2.2.1
def zsC (n:Nat) (s:yC) (f:Term) (t7:Int) (t8:Int):=zH (ziW) (.inl default) n (s,(f,()),t7,t8,()) ()
def zsD:LL ty zea:=za (lSl 28) (za (lFn 61 (za (znx (zhh (fun x=>(⟨x.1,x.2.1⟩:Term)) (fun x=>(x.Cf,x.Fs,())) (fun _=>rfl) (za zj (za (lSl 69) zn))) 0) zn)) (za zj (za zj zn)))
def zr8 (x:zea) (y:Unit):Nat:=(x.1.length+x.2.1.1.Fs.length+Int.toNat x.2.2.1+Int.toNat x.2.2.2.1+1000)
def zi5:=zb5 base 19 [(61,ziw)] [] [(2,(kpL [0,1,7,8]))] [(2,1,[]),(2,0,(kpL [4]))] [(2,spW zsD z7V (ziW) (.inl default) zsk zr8)] []
theorem zr2:zM zi5 (lp (body f113) 0):=zw (id:=2) (hl:=rfl)
def zth (s:yC) (f:Term):Wy0 (Int):=.bn (zsC (s.length+f.Fs.length+(Int.ofNat s.length).toNat +Int.toNat 0+1000) s f (Int.ofNat s.length) 0) fun r2=>.i (isL r2) (.k (getL r2)) (.k (-1:Int))
def zfn (s:yC) (f:Term):=(zth s f).fin default
def ztW:AL base (yC×(Term×Unit)×Unit):=zd (ze (vSl 28)) (zd (ze (vFn 61 (zdA (zzh 28) zbW))) zr)
def zhS:=zh ztW fun x=>((zfn x.1 x.2.1.1).1,zPQ (zfn x.1 x.2.1.1).2)
theorem zqg:SdP 113 zhS:=
 sT (cx':=zi5) (zi ⟨zlR,trivial⟩) call113 func113 (lOK (aC zr2 aN))
def zqx:=zbq base 9 [(61,ziw),(113,zhS)]
def zrj (s:yC) (f:Term):Wy0 (Bool):=.bn (zfn s f) fun r0=>.k (decide (r0≥0))
def zeL (s:yC) (f:Term):=(zrj s f).fin default
def zgU:=zh ztW fun x=>((zeL x.1 x.2.1.1).1,zVj (zeL x.1 x.2.1.1).2)
theorem zol:SdP 59 zgU:=
 sT (cx':=zqx) (zi ⟨zlR,zqg,trivial⟩) call59 func59 (lOK aN)
def zNM:=zbq base 8 [(59,zgU),(61,ziw)]
def zPr (t:Term) (p1:yC):Wy0 (Bool):=.bn (zeL p1 t) fun r0=>.k (!r0)
def zxq (t:Term) (p1:yC):=(zPr t p1).fin default
def zO8:AL base (Term×(yC×Unit)×Unit):=zd (ze (zcG 28)) (zd (ze (zue (zdA (vSl 28) zbW))) zr)
def zkD:=zh zO8 fun x=>((zxq x.1 x.2.1.1).1,zVj (zxq x.1 x.2.1.1).2)
theorem zoo:SdP 60 zkD:=
 sT (cx':=zNM) (zi ⟨zol,zlR,trivial⟩) call60 func60 (lOK aN)
abbrev zeq:=yC×((yC×Unit)×Unit)×Int×Int×Unit
def ztl (s:yC) (f:yC) (t7:Int) (t8:Int):Wy zeq (Unit) (Int⊕Unit):=.i (decide (t8<t7)) (.i (decide (0≤t8)&&decide (t8<Int.ofNat s.length)) (.bn (zxq (s.getD t8.toNat default) f) fun r0=>.i (r0) (.k (.inl t8)) (.h (s,((f,()),()),t7,(IntKind.i64.wrap (t8+1)),()) ())) .d) (.k (.inr ()))
def zjw (x:zeq) (y:Unit):=ztl x.1 x.2.1.1.1 x.2.2.1 x.2.2.2.1
def ztZ (n:Nat) (s:yC) (f:yC) (t7:Int) (t8:Int):=zH (zjw) (.inl default) n (s,((f,()),()),t7,t8,()) ()
def ztY:LL ty zeq:=za (lSl 28) (za (lFn 60 (za (znx (za (lSl 28) zn) 0) zn)) (za zj (za zj zn)))
def zsm (x:zeq) (y:Unit):Nat:=(x.1.length+x.2.1.1.1.length+Int.toNat x.2.2.1+Int.toNat x.2.2.2.1+1000)
def zjl:=zb5 base 19 [(60,zkD)] [] [(2,(kpL [0,1,7,8]))] [(2,1,[]),(2,0,(kpL [4]))] [(2,spW ztY z7V (zjw) (.inl default) zsk zsm)] []
theorem zsR:zM zjl (lp (body f113) 0):=zw (id:=2) (hl:=rfl)
def zur (s:yC) (f:yC):Wy0 (Int):=.bn (ztZ (s.length+f.length+(Int.ofNat s.length).toNat +Int.toNat 0+1000) s f (Int.ofNat s.length) 0) fun r2=>.i (isL r2) (.k (getL r2)) (.k (-1:Int))
def zfz (s:yC) (f:yC):=(zur s f).fin default
def zua:AL base (yC×((yC×Unit)×Unit)×Unit):=zd (ze (vSl 28)) (zd (ze (vFn 60 (zdA (zue (zdA (vSl 28) zbW)) zbW))) zr)
def zik:=zh zua fun x=>((zfz x.1 x.2.1.1.1).1,zPQ (zfz x.1 x.2.1.1.1).2)
theorem zq0:SdP 113 zik:=
 sT (cx':=zjl) (zi ⟨zoo,trivial⟩) call113 func113 (lOK (aC zsR aN))
def zqY:=zbq base 9 [(60,zkD),(113,zik)]
def zrZ (s:yC) (f:yC):Wy0 (Bool):=.bn (zfz s f) fun r0=>.k (decide (r0≥0))
def zeS (s:yC) (f:yC):=(zrZ s f).fin default
def zhb:=zh zua fun x=>((zeS x.1 x.2.1.1.1).1,zVj (zeS x.1 x.2.1.1.1).2)
theorem zoZ:SdP 59 zhb:=
 sT (cx':=zqY) (zi ⟨zoo,zq0,trivial⟩) call59 func59 (lOK aN)
def zTK:=zbq base 17 [(20,zcb),(59,zhb),(60,zkD)]
def zVW (a:yC) (b:yC):Wy0 (Bool):=.bn (zbX a) fun r2=>.i (!r2) (.k false) (.bn (zbX b) fun r1=>.i (!r1) (.k false) (.bn (zeS a b) fun r0=>.k (!r0)))
def zBP (a:yC) (b:yC):=(zVW a b).fin default
def zCc:=zh zTM fun x=>((zBP x.1 x.2.1).1,zVj (zBP x.1 x.2.1).2)
theorem zNN:SdP 18 zCc:=
 sT (cx':=zTK) (zi ⟨zci,zoZ,zoo,trivial⟩) call18 func18 (lOK aN)
def zdq (F:Term→Bool×Bool):Ab.Spec ty:=zh zPY fun x=>((F x.1).1,zVj (F x.1).2)
def zcQ (F:Fc→Bool×Bool):Ab.Spec ty:=zh zJ3 fun x=>((F x.1).1,zVj (F x.1).2)
def zt0:AL base (yC×Unit×Unit):=zd (ze (vSl 28)) (zd (ze (vFn 141 zbW)) zr)
def zdu (F:yC→Bool×Int):Ab.Spec ty:=zh zt0 fun x=>((F x.1).1,zPQ (F x.1).2)
def zdc (F:yC→Bool×Bool):Ab.Spec ty:=zh zt0 fun x=>((F x.1).1,zVj (F x.1).2)
def zug:AL base (yD×Unit×Unit):=zd (ze (vSl 69)) (zd (ze (vFn 142 zbW)) zr)
def zdN (F:yD→Bool×Int):Ab.Spec ty:=zh zug fun x=>((F x.1).1,zPQ (F x.1).2)
def zde (F:yD→Bool×Bool):Ab.Spec ty:=zh zug fun x=>((F x.1).1,zVj (F x.1).2)
def zKw (zba:yC→Bool×Bool) (zo:Term→Bool×Bool):=zbq base 6 [(59,(zdc zba)),(141,(zdq zo))]
def zK8 (zba:yC→Bool×Bool) (zo:Term→Bool×Bool) (a:yC):Wy0 (Bool):=.bn (zba a) fun r0=>.k (!r0)
def zCq (zba:yC→Bool×Bool) (zo:Term→Bool×Bool) (a:yC):=(zK8 zba zo a).fin default
theorem zGr (zba:yC→Bool×Bool) (zo:Term→Bool×Bool) (zpO:SdP 59 (zdc zba)) (zf2:SdP 141 (zdq zo)):SdP 73 (zhF (zCq zba zo)):=
 sT (cx':=(zKw zba zo)) (zi ⟨zpO,zf2,trivial⟩) call73 func73 (lOK aN)
def zF4 (zbe:yD→Bool×Bool) (zk:Fc→Bool×Bool):=zbq base 6 [(49,(zde zbe)),(142,(zcQ zk))]
def zG9 (zbe:yD→Bool×Bool) (zk:Fc→Bool×Bool) (t:Term):Wy0 (Bool):=.bn (zbe t.Fs) fun r0=>.k r0
def zzm (zbe:yD→Bool×Bool) (zk:Fc→Bool×Bool) (t:Term):=(zG9 zbe zk t).fin default
theorem zDJ (zbe:yD→Bool×Bool) (zk:Fc→Bool×Bool) (zqc:SdP 49 (zde zbe)) (zeR:SdP 142 (zcQ zk)):SdP 141 (zdq (zzm zbe zk)):=
 sT (cx':=(zF4 zbe zk)) (zi ⟨zqc,zeR,trivial⟩) call141 func141 (lOK aN)
def zDP (zdI:yC→Bool×Bool):=zbq base 22 [(73,(zhF zdI))]
def zEU (zdI:yC→Bool×Bool) (f:Fc):Wy0 (Bool):=.i (f.At.Kind != 0) (.i (f.At.Kind != 2) (.k true) (.i (decide ((0:Int)≤(0:Int))&&decide (0<Int.ofNat f.At.Ag.length)) (.bn (zdI (f.At.Ag.getD (Int.toNat 0) default)) fun r0=>.k (!r0)) .d)) (.k false)
def zv0 (zdI:yC→Bool×Bool) (f:Fc):=(zEU zdI f).fin default
theorem zBI (zdI:yC→Bool×Bool) (zMk:SdP 73 (zhF zdI)):SdP 142 (zcQ (zv0 zdI)):=
 sT (cx':=(zDP zdI)) (zi ⟨zMk,trivial⟩) call142 func142 (lOK aN)
def zo4 (zbn:yD→Bool×Int) (zk:Fc→Bool×Bool):=zbq base 9 [(103,(zdN zbn)),(142,(zcQ zk))]
def zp0 (zbn:yD→Bool×Int) (zk:Fc→Bool×Bool) (s:yD):Wy0 (Bool):=.bn (zbn s) fun r0=>.k (decide (r0≥0))
def zio (zbn:yD→Bool×Int) (zk:Fc→Bool×Bool) (s:yD):=(zp0 zbn zk s).fin default
theorem znN (zbn:yD→Bool×Int) (zk:Fc→Bool×Bool) (zsz:SdP 103 (zdN zbn)) (zeR:SdP 142 (zcQ zk)):SdP 49 (zde (zio zbn zk)):=
 sT (cx':=(zo4 zbn zk)) (zi ⟨zsz,zeR,trivial⟩) call49 func49 (lOK aN)
def zoK (zbj:yC→Bool×Int) (zo:Term→Bool×Bool):=zbq base 9 [(113,(zdu zbj)),(141,(zdq zo))]
def zpu (zbj:yC→Bool×Int) (zo:Term→Bool×Bool) (s:yC):Wy0 (Bool):=.bn (zbj s) fun r0=>.k (decide (r0≥0))
def zh0 (zbj:yC→Bool×Int) (zo:Term→Bool×Bool) (s:yC):=(zpu zbj zo s).fin default
theorem znh (zbj:yC→Bool×Int) (zo:Term→Bool×Bool) (zr9:SdP 113 (zdu zbj)) (zf2:SdP 141 (zdq zo)):SdP 59 (zdc (zh0 zbj zo)):=
 sT (cx':=(zoK zbj zo)) (zi ⟨zr9,zf2,trivial⟩) call59 func59 (lOK aN)
abbrev zel:=yD×Unit×Int×Int×Unit
def zrK (zk:Fc→Bool×Bool) (s:yD) (t7:Int) (t8:Int):Wy zel (Unit) (Int⊕Unit):=.i (decide (t8<t7)) (.i (decide (0≤t8)&&decide (t8<Int.ofNat s.length)) (.bn (zk (FO.mk (At.mk (s.getD t8.toNat default).At.Kind (s.getD t8.toNat default).At.Row (s.getD t8.toNat default).At.Ag (s.getD t8.toNat default).At.Func (s.getD t8.toNat default).At.Items (s.getD t8.toNat default).At.Op (s.getD t8.toNat default).At.Bd) (s.getD t8.toNat default).Exp)) fun r0=>.i (r0) (.k (.inl t8)) (.h (s,(),t7,(IntKind.i64.wrap (t8+1)),()) ())) .d) (.k (.inr ()))
def zil (zk:Fc→Bool×Bool) (x:zel) (y:Unit):=zrK zk x.1 x.2.2.1 x.2.2.2.1
def zsd (zk:Fc→Bool×Bool) (n:Nat) (s:yD) (t7:Int) (t8:Int):=zH (zil zk) (.inl default) n (s,(),t7,t8,()) ()
def zr3:LL ty zel:=za (lSl 69) (za (lFn 142 (zn)) (za zj (za zj zn)))
def zq3 (x:zel) (y:Unit):Nat:=(x.1.length+Int.toNat x.2.2.1+Int.toNat x.2.2.2.1+1000)
def zin (zk:Fc→Bool×Bool):=zb5 base 19 [(142,(zcQ zk))] [] [(2,(kpL [0,1,7,8]))] [(2,1,[]),(2,0,(kpL [4]))] [(2,spW zr3 z7V (zil zk) (.inl default) zsk zq3)] []
theorem zrt (zk:Fc→Bool×Bool):zM (zin zk) (lp (body f103) 0):=zw (id:=2) (hl:=rfl)
def zsA (zk:Fc→Bool×Bool) (s:yD):Wy0 (Int):=.bn (zsd zk (s.length+(Int.ofNat s.length).toNat +Int.toNat 0+1000) s (Int.ofNat s.length) 0) fun r2=>.i (isL r2) (.k (getL r2)) (.k (-1:Int))
def zjW (zk:Fc→Bool×Bool) (s:yD):=(zsA zk s).fin default
theorem zpc (zk:Fc→Bool×Bool) (zeR:SdP 142 (zcQ zk)):SdP 103 (zdN (zjW zk)):=
 sT (cx':=(zin zk)) (zi ⟨zeR,trivial⟩) call103 func103 (lOK (aC (zrt zk) aN))
abbrev zd8:=yC×Unit×Int×Int×Unit
def zqJ (zo:Term→Bool×Bool) (s:yC) (t7:Int) (t8:Int):Wy zd8 (Unit) (Int⊕Unit):=.i (decide (t8<t7)) (.i (decide (0≤t8)&&decide (t8<Int.ofNat s.length)) (.bn (zo (s.getD t8.toNat default)) fun r0=>.i (r0) (.k (.inl t8)) (.h (s,(),t7,(IntKind.i64.wrap (t8+1)),()) ())) .d) (.k (.inr ()))
def zhP (zo:Term→Bool×Bool) (x:zd8) (y:Unit):=zqJ zo x.1 x.2.2.1 x.2.2.2.1
def zqQ (zo:Term→Bool×Bool) (n:Nat) (s:yC) (t7:Int) (t8:Int):=zH (zhP zo) (.inl default) n (s,(),t7,t8,()) ()
def zqD:LL ty zd8:=za (lSl 28) (za (lFn 141 (zn)) (za zj (za zj zn)))
def zqm (x:zd8) (y:Unit):Nat:=(x.1.length+Int.toNat x.2.2.1+Int.toNat x.2.2.2.1+1000)
def zhI (zo:Term→Bool×Bool):=zb5 base 19 [(141,(zdq zo))] [] [(2,(kpL [0,1,7,8]))] [(2,1,[]),(2,0,(kpL [4]))] [(2,spW zqD z7V (zhP zo) (.inl default) zsk zqm)] []
theorem zpX (zo:Term→Bool×Bool):zM (zhI zo) (lp (body f113) 0):=zw (id:=2) (hl:=rfl)
def zr0 (zo:Term→Bool×Bool) (s:yC):Wy0 (Int):=.bn (zqQ zo (s.length+(Int.ofNat s.length).toNat +Int.toNat 0+1000) s (Int.ofNat s.length) 0) fun r2=>.i (isL r2) (.k (getL r2)) (.k (-1:Int))
def zji (zo:Term→Bool×Bool) (s:yC):=(zr0 zo s).fin default
theorem zoS (zo:Term→Bool×Bool) (zf2:SdP 141 (zdq zo)):SdP 113 (zdu (zji zo)):=
 sT (cx':=(zhI zo)) (zi ⟨zf2,trivial⟩) call113 func113 (lOK (aC (zpX zo) aN))
def zcZ:Nat→(yC→Bool×Bool)×(Term→Bool×Bool)×(Fc→Bool×Bool)×(yC→Bool×Int)×(yC→Bool×Bool)×(yD→Bool×Int)×(yD→Bool×Bool)
 | 0=>(fun _=>(false,default),fun _=>(false,default),fun _=>(false,default),fun _=>(false,default),fun _=>(false,default),fun _=>(false,default),fun _=>(false,default))
 | n+1=>(zCq ((zcZ n).2.2.2.2.1) ((zcZ n).2.1),zzm ((zcZ n).2.2.2.2.2.2) ((zcZ n).2.2.1),zv0 ((zcZ n).1),zji ((zcZ n).2.1),zh0 ((zcZ n).2.2.2.1) ((zcZ n).2.1),zjW ((zcZ n).2.2.1),zio ((zcZ n).2.2.2.2.2.1) ((zcZ n).2.2.1))
def zB6 (n:Nat):yC→Bool×Bool:=(zcZ n).1
def zKE (n:Nat):Term→Bool×Bool:=(zcZ n).2.1
def zGh (n:Nat):Fc→Bool×Bool:=(zcZ n).2.2.1
def ztp (n:Nat):yC→Bool×Int:=(zcZ n).2.2.2.1
def zqC (n:Nat):yC→Bool×Bool:=(zcZ n).2.2.2.2.1
def zuy (n:Nat):yD→Bool×Int:=(zcZ n).2.2.2.2.2.1
def zrP (n:Nat):yD→Bool×Bool:=(zcZ n).2.2.2.2.2.2
theorem zOF:∀ n,SdP 73 (zhF (zB6 n))∧SdP 141 (zdq (zKE n))∧SdP 142 (zcQ (zGh n))∧SdP 113 (zdu (ztp n))∧SdP 59 (zdc (zqC n))∧SdP 103 (zdN (zuy n))∧SdP 49 (zde (zrP n))
 | 0=>⟨z8 call73 (fun _=>rfl),z8 call141 (fun _=>rfl),z8 call142 (fun _=>rfl),z8 call113 (fun _=>rfl),z8 call59 (fun _=>rfl),z8 call103 (fun _=>rfl),z8 call49 (fun _=>rfl)⟩
 | n+1=>by
  have ih:=zOF n;exact ⟨zGr _ _ (ih.2.2.2.2.1) (ih.2.1),zDJ _ _ (ih.2.2.2.2.2.2) (ih.2.2.1),zBI _ (ih.1),zoS _ (ih.2.1),znh _ _ (ih.2.2.2.1) (ih.2.1),zpc _ (ih.2.2.1),znN _ _ (ih.2.2.2.2.2.1) (ih.2.2.1)⟩
def zE2:yC→Bool×Bool:=zB6 1000
def zzi:Ab.Spec ty:=zhF zE2
theorem zI2:SdP 73 zzi:=(zOF 1000).1
def zLi (r:yB):ARes ty:=⟨[.own 43 r],[]⟩
def zjQ (F:yC→Bool×yB):Ab.Spec ty:=zh zXg fun x=>((F x.1).1,zLi (F x.1).2)
abbrev zgl:=yF×yF×Int×Int×Unit
def zAs (s1:yF) (s2:yF) (t12:Int) (t13:Int):Wy zgl (Unit) (Bool⊕Unit):=.i (decide (t13<t12)) (.i (decide (0≤t13)&&decide (t13<Int.ofNat s1.length)) (.i (decide (0≤t13)&&decide (t13<Int.ofNat s2.length)) (.i (!((s1.getD t13.toNat default).Table==(s2.getD t13.toNat default).Table&&((s1.getD t13.toNat default).Seq==(s2.getD t13.toNat default).Seq&&true))) (.k (.inl false)) (.h (s1,s2,t12,(IntKind.i64.wrap (t13+1)),()) ())) .d) .d) (.k (.inr ()))
def znJ (x:zgl) (y:Unit):=zAs x.1 x.2.1 x.2.2.1 x.2.2.2.1
def zAI (n:Nat) (s1:yF) (s2:yF) (t12:Int) (t13:Int):=zH (znJ) (.inl default) n (s1,s2,t12,t13,()) ()
def zAj:LL ty zgl:=za (lSl 49) (za (lSl 49) (za zj (za zj zn)))
def zzC (x:zgl) (y:Unit):Nat:=(x.1.length+x.2.1.length+Int.toNat x.2.2.1+Int.toNat x.2.2.2.1+1)
def zns:=zb5 base 26 [] [] [(4,(kpL [0,1,12,13]))] [(4,1,[]),(4,0,(kpL [4]))] [(4,spW zAj z7V (znJ) (.inl default) zQe zzC)] []
theorem zzx:zM zns (lp (body f209) 0):=zw (id:=4) (hl:=rfl)
def zAY (s1:yF) (s2:yF):Wy0 (Bool):=.i (Int.ofNat s1.length != Int.ofNat s2.length) (.k false) (.bn (zAI (s1.length+s2.length+(Int.ofNat s1.length).toNat +Int.toNat 0+1) s1 s2 (Int.ofNat s1.length) 0) fun r0=>.i (isL r0) (.k (getL r0)) (.k true))
def zjG (s1:yF) (s2:yF):=(zAY s1 s2).fin default
def zAP:AL base (yF×yF×Unit):=zd (ze (vSl 49)) (zd (ze (vSl 49)) zr)
def zmy:=zh zAP fun x=>((zjG x.1 x.2.1).1,zVj (zjG x.1 x.2.1).2)
theorem zyc:SdP 209 zmy:=
 sT (cx':=zns) (zi trivial) call209 func209 (lOK (aC zzx aN))
def zVX:=zbq base 8 [(209,zmy)]
def zWq (a:yF) (b:yF):Wy0 (Bool):=.bn (zjG a b) fun r0=>.k r0
def zwW (a:yF) (b:yF):=(zWq a b).fin default
def zvF:=zh zAP fun x=>((zwW x.1 x.2.1).1,zVj (zwW x.1 x.2.1).2)
theorem zCt:SdP 208 zvF:=
 sT (cx':=zVX) (zi ⟨zyc,trivial⟩) call208 func208 (lOK aN)
def z0q:=zbq base 17 [(120,zlB),(121,zlc)]
def z2b (a:RowID) (b:RowID):Wy0 (Int):=.bn (zdZ a.Table b.Table) fun r2=>.bn (zdZ a.Seq b.Seq) fun r1=>.bn (zmR [r2,r1]) fun r0=>.k r0
def zmE (a:RowID) (b:RowID):=(z2b a b).fin default
def z2a:AL base (RowID×RowID×Unit):=zd (ze (zcG 49)) (zd (ze (zcG 49)) zr)
def zmA:=zh z2a fun x=>((zmE x.1 x.2.1).1,zPQ (zmE x.1 x.2.1).2)
theorem zpD:SdP 233 zmA:=
 sT (cx':=z0q) (zi ⟨zmF,zn6,trivial⟩) call233 func233 (lOK aN)
def zeZ:Cx ty:={ base with nt:=8 }
def zfO (s:yF):Bool×yF:=(decide (s.length*16≤zK),s)
def zg2:Ab.Spec ty:=zh (cx:=base) (zd (ze (vSl 49)) zr) fun x=>((zfO x.1).1,⟨[.own 49 (zfO x.1).2],[]⟩)
theorem zzA:zgk zeZ f212 (body f212) ⟨[.own 49],[]⟩ [.pure (.lit (.slice none 0 0))]=some ⟨[.own 49 []],[]⟩:=by kernel_rfl
theorem zxW (p:Addr) (c:Nat):zgk zeZ f212 (body f212) ⟨[.own 49],[]⟩ [.pure (.lit (.slice (some p) 0 c))]=some ⟨[.own 49 []],[]⟩:=by kernel_rfl
theorem zyG (l:yF):zgk zeZ f212 (body f212) ⟨[.own 49],[]⟩ [.pure (.sl 49 l)]=bif !l.isEmpty then bif decide ((([]:List (ty 49)).length+l.length)*16≤zK) then some ⟨[.own 49 l],[]⟩ else none else none:=by kernel_rfl
theorem zlK:SdP 212 zg2:=
 zGV (cx':=zeZ) (bytes:=16) zEi zgL ⟨⟨rfl,rfl,rfl,rfl,rfl,rfl⟩,rfl⟩ (fun g s h=>by cases h) call212 func212 (c:=body f212) (by kernel_rfl) (zA9 (l:=[]) (by kernel_rfl) trivial) zzA zxW zyG (by kernel_rfl)
abbrev zfy:=Unit×Int×(Nat×Nat)×Int×Unit
abbrev zb6:=yF×Unit
abbrev zoE:=Int×yF
abbrev zjf:=Unit×Int×Unit
abbrev zoF:=(Nat×yF)⊕yF
def zyI (k:Int) (s2_0:Nat) (s2_1:Nat) (k2:Int) (s:yF):Wy zfy zb6 zoE:=.i (decide (k2<Int.ofNat s2_1)) (.i (decide (0≤k2)&&decide (k2<Int.ofNat s2_1)) (.i (decide (0≤IntKind.i64.wrap (k2 - 1))&&decide (IntKind.i64.wrap (k2 - 1)<Int.ofNat s2_1)) (.i (!((s.getD (s2_0+k2.toNat) default).Table==(s.getD (s2_0+(IntKind.i64.wrap (k2 - 1)).toNat) default).Table&&((s.getD (s2_0+k2.toNat) default).Seq==(s.getD (s2_0+(IntKind.i64.wrap (k2 - 1)).toNat) default).Seq&&true))) (.i (decide (0≤k2)&&decide (k2<Int.ofNat s2_1)) (.i (decide (0≤k)&&decide (k<Int.ofNat s.length)) (.i (decide (k.toNat<s.length)) (.h ((),(IntKind.i64.wrap (k+1)),(s2_0,s2_1),(IntKind.i64.wrap (k2+1)),()) ((s.set k.toNat (s.getD (s2_0+k2.toNat) default)),())) .d) .d) .d) (.h ((),k,(s2_0,s2_1),(IntKind.i64.wrap (k2+1)),()) (s,()))) .d) .d) (.k (k,s))
def zmr (x:zfy) (y:zb6):=zyI x.2.1 x.2.2.1.1 x.2.2.1.2 x.2.2.2.1 y.1
def zyS (n:Nat) (k:Int) (s2_0:Nat) (s2_1:Nat) (k2:Int) (s:yF):=zH (zmr) default n ((),k,(s2_0,s2_1),k2,()) (s,())
def zya (r:zoE):LTree ty:=.done (.exit 2) [.own 244,.lit (.int .i64 r.1)] [.arr 49 r.2 false]
def zyT:LL ty zfy:=za (zd3 244) (za zj (za (zbhT 244) (za zj zn)))
def zys:BL ty zb6:=zed 49 false (zbl)
def zyA (k:Int) (s:yF):Wy zjf zb6 zoF:=.i (decide (k<Int.ofNat s.length)) (.i (decide (0≤k)&&decide (k<Int.ofNat s.length)) (.i (decide (0≤IntKind.i64.wrap (k - 1))&&decide (IntKind.i64.wrap (k - 1)<Int.ofNat s.length)) (.i ((s.getD k.toNat default).Table==(s.getD (IntKind.i64.wrap (k - 1)).toNat default).Table&&((s.getD k.toNat default).Seq==(s.getD (IntKind.i64.wrap (k - 1)).toNat default).Seq&&true)) (.i (decide (0≤k)&&decide (k≤Int.ofNat s.length)&&decide (Int.ofNat s.length≤Int.ofNat s.length)) (.bn (zyS (k.toNat +k.toNat +((Int.ofNat s.length).toNat - k.toNat)+Int.toNat 1+s.length+1) k k.toNat ((Int.ofNat s.length).toNat - k.toNat) 1 s) fun r0=>.i (decide (0≤r0.1)&&decide (r0.1≤Int.ofNat r0.2.length)&&decide (Int.ofNat r0.2.length≤Int.ofNat r0.2.length)) (.i (decide (r0.1.toNat +((Int.ofNat r0.2.length).toNat - r0.1.toNat)≤r0.2.length)) (.i (decide ((0:Int)≤(0:Int))&&decide (0≤r0.1)&&decide (r0.1≤Int.ofNat (List.take r0.1.toNat r0.2++List.replicate ((Int.ofNat r0.2.length).toNat - r0.1.toNat) (RowID.mk 0 0)++List.drop (r0.1.toNat +((Int.ofNat r0.2.length).toNat - r0.1.toNat)) r0.2).length)) (.k (.inl (r0.1.toNat - Int.toNat 0,List.take r0.1.toNat r0.2++List.replicate ((Int.ofNat r0.2.length).toNat - r0.1.toNat) (RowID.mk 0 0)++List.drop (r0.1.toNat +((Int.ofNat r0.2.length).toNat - r0.1.toNat)) r0.2))) .d) .d) .d) .d) (.h ((),(IntKind.i64.wrap (k+1)),()) (s,()))) .d) .d) (.k (.inr s))
def zmu (x:zjf) (y:zb6):=zyA x.2.1 y.1
def zyF (n:Nat) (k:Int) (s:yF):=zH (zmu) (.inl default) n ((),k,()) (s,())
def zxL (r:zoF):LTree ty:=.ite (isL r) (.done .ret [.sub 244 0 ((getL r).1)] [.arr 49 ((getL r).2) false]) (.done (.exit 0) [.own 244] [.arr 49 (getR r) false])
def zyt:LL ty zjf:=za (zd3 244) (za zj zn)
def zx4 (x:zfy) (y:zb6):Nat:=(Int.toNat x.2.1+x.2.2.1.1+x.2.2.1.2+Int.toNat x.2.2.2.1+y.1.length+1)
def zgZ:=zb5 base 61 [] [] [(4,(kpL [0,3])),(9,(kpL [0,3,4,5]))] [(4,1,(kpL [0])),(4,0,(kpL [2])),(9,3,(kpL [0,3]))] [(9,spW zyT zys (zmr) default zya zx4),(4,spW zyt zys (zmu) (.inl default) zxL fun x y=>(Int.toNat x.2.1+y.1.length+1))] []
theorem zxY:zM zgZ (lp (body f234) 1):=zw (id:=9) (hl:=rfl)
theorem zxX:zM zgZ (lp (body f234) 0):=zw (id:=4) (hl:=rfl)
def zzr (s:yF):Wy0 (yF):=.i (decide (Int.ofNat s.length<2)) (.k s) (.bn (zyF (Int.toNat 1+s.length+1) 1 s) fun r2=>.i (isL r2) (.k (List.take (getL r2).1 (getL r2).2)) (.k (getR r2)))
def ziI (s:yF):=(zzr s).fin default
def zxU (r:yF):ARes ty:=⟨[.own 49 r],[none]⟩
def zzv:AL base zb6:=zd (zlZ 49) zr
def zlv:=zh zzv fun x=>((ziI x.1).1,zxU (ziI x.1).2)
theorem zwj:SdP 234 zlv:=
 sT (cx':=zgZ) (zi trivial) call234 func234 (lOK (aC zxX (aC zxY aN))) (sg:=⟨[.own 49],[false]⟩)
def zh3 (x:yF):Bool×yF:=zz7 (fun a b=>zmE a b) x
def zkV:Ab.Spec ty:=zh (cx:=base) (zd (zlZ 49) (zd (ze (vFn 233 (zbW))) zr)) fun x=>((zh3 x.1).1,⟨[],[some ⟨49,(zh3 x.1).2⟩]⟩)
theorem zxg (c:Unit) (x y:RowID) (h:(zmE x y).1=true):zmA ((AV.agg (base.enc 49 x)::AV.agg (base.enc 49 y)::(zbW:VL base (Unit)).enc c).map Arg.pure)=some (true,⟨[.pure (.lit (.int .i64 (zmE x y).2))],[]⟩):=by
 rw [← h]; kernel_rfl
theorem zvZ:SdP 232 zkV:=by
 letI:DecidableEq (ty 49):=inferInstanceAs (DecidableEq RowID)
 exact zbaU (T:=49) zgL rfl Go.Proofs.Tryz.sortRow Tryz.isAgg49 (by unfold zq; exact Tryz.sizeOf49) call232 zpD (zbW) (fun c=>fun a b=>zmE a b) zxg
def zV8:=zb5 base 10 [(212,zg2),(232,zkV),(233,zmA),(234,zlv)] [(232,[true,false]),(234,[true])] [] [] [] []
def zXn (l:yF):Wy0 (yF):=.bn (zfO l) fun r2=>.bn (zh3 r2) fun r1=>.bn (ziI r1) fun r0=>.k r0
def zrh (l:yF):=(zXn l).fin default
def zT5 (r:yF):ARes ty:=⟨[.own 49 r],[]⟩
def zXh:AL base (yF×Unit):=zd (ze (vSl 49)) zr
def zn4:=zh zXh fun x=>((zrh x.1).1,zT5 (zrh x.1).2)
theorem zup:SdP 204 zn4:=
 sT (cx':=zV8) (zi ⟨zlK,zvZ,zpD,zwj,trivial⟩) call204 func204 (lOK aN) (sg:=⟨[.own 49],[]⟩)
end Go.Proofs.YtljlfiomikifjaaGreatDoor
end
