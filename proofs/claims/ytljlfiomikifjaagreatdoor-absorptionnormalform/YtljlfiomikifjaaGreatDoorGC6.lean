/- Texts of this claim, joined (the program, its functions in plain words, and what they compute). -/
import Derived.Test.YtljlfiomikifjaaGreatDoorGC5
set_option autoImplicit false
set_option linter.unusedVariables false
set_option linter.unusedSectionVars false
set_option linter.unusedSimpArgs false
set_option maxRecDepth 1000000
set_option maxHeartbeats 0
noncomputable section
namespace Go.Proofs.YtljlfiomikifjaaGreatDoor
open Go Go.Ab
open Go.Proofs.Tryz
abbrev zqz:=Unit×Unit×Int×Unit
abbrev zqX:=At×At×Unit
abbrev zHS:=Int⊕(At×At)
def zvY (zY:yC->yC->Bool×Int) (zbA:yE->yE->Bool×Int) (i:Int) (a:At) (b:At):Wy zqz zqX zHS:=.i (decide (i<Int.ofNat a.Ag.length)) (.i (decide (i<Int.ofNat b.Ag.length)) (.i (decide (0<=i)&&decide (i<Int.ofNat a.Ag.length)) (.i (decide (0<=i)&&decide (i<Int.ofNat b.Ag.length)) (.bn (zY (a.Ag.getD i.toNat default) (b.Ag.getD i.toNat default)) λr0=>.i (r0 != 0) (.k (.inl (r0))) (.h ((),(),(IntKind.i64.wrap (i+1)),()) (a,b,()))) .d) .d) (.k (.inr (a,b)))) (.k (.inr (a,b)))
def zEL (zY:yC->yC->Bool×Int) (zbA:yE->yE->Bool×Int) (x:zqz) (y:zqX):=zvY zY zbA x.2.2.1 y.1 y.2.1
def zv0 (zY:yC->yC->Bool×Int) (zbA:yE->yE->Bool×Int) (n:Nat) (i:Int) (a:At) (b:At):=zC (zEL zY zbA) (.inl default) n ((),(),i,()) (a,b,())
def zQp (r:zHS):LTree ty:=.ite (isL r) (.done .ret [.lit (.int .i64 (getL r))] []) (.done (.exit 0) [.ptr 384 0,.ptr 385 0] [.box (base.enc 67 (getR r).1) false,.box (base.enc 67 (getR r).2) false])
def zS3:LL ty zqz:=za (ze3 384 0) (za (ze3 385 0) (za zj zl))
def zR1:BL ty zqX:=zhS (zf1 (λx=>(⟨x.1,⟨x.2.1,x.2.2.1⟩,x.2.2.2.1,x.2.2.2.2.1,x.2.2.2.2.2.1,x.2.2.2.2.2.2.1,⟨x.2.2.2.2.2.2.2.1,x.2.2.2.2.2.2.2.2.1,x.2.2.2.2.2.2.2.2.2.1⟩⟩:At)) (λx=>(x.Kind,x.Row.Table,x.Row.Seq,x.Ag,x.Func,x.Items,x.Op,x.Bd.Kind,x.Bd.Int,x.Bd.Text,())) (λ_=>rfl) (za (zR .i64) (za (zR .i64) (za (zR .i64) (za (lSl 23) (za (zR .i64) (za (lSl 100) (za (zR .i64) (za (zR .i64) (za (zR .i64) (za zrP zl))))))))))) false (zhS (zf1 (λx=>(⟨x.1,⟨x.2.1,x.2.2.1⟩,x.2.2.2.1,x.2.2.2.2.1,x.2.2.2.2.2.1,x.2.2.2.2.2.2.1,⟨x.2.2.2.2.2.2.2.1,x.2.2.2.2.2.2.2.2.1,x.2.2.2.2.2.2.2.2.2.1⟩⟩:At)) (λx=>(x.Kind,x.Row.Table,x.Row.Seq,x.Ag,x.Func,x.Items,x.Op,x.Bd.Kind,x.Bd.Int,x.Bd.Text,())) (λ_=>rfl) (za (zR .i64) (za (zR .i64) (za (zR .i64) (za (lSl 23) (za (zR .i64) (za (lSl 100) (za (zR .i64) (za (zR .i64) (za (zR .i64) (za zrP zl))))))))))) false (zbd))
def zQd (x:zqz) (y:zqX):Nat:=(Int.toNat x.2.2.1+y.1.Ag.length+y.1.Items.length+y.2.1.Ag.length+y.2.1.Items.length+1)
def zEB (zY:yC->yC->Bool×Int) (zbA:yE->yE->Bool×Int):=zbV base 96 [(89,(zeP zY)),(91,zmz),(105,zxe),(106,(zmr zbA)),(107,zCE)] [] [(8,(kpL [2,3,7]))] [(8,1,(kpL [2,3])),(8,0,(kpL [4]))] [(8,spW zS3 zR1 (zEL zY zbA) (.inl default) zQp zQd)] []
theorem zQE (zY:yC->yC->Bool×Int) (zbA:yE->yE->Bool×Int):zF (zEB zY zbA) (lp (body f53) 0):=zq (id:=8) (hl:=rfl)
def zF7 (zY:yC->yC->Bool×Int) (zbA:yE->yE->Bool×Int) (a:At) (b:At):Wy0 (Int):=.bn (zc8 a.Kind b.Kind) λr9=>.i (r9 != 0) (.k r9) (.bn (znN a.Row b.Row) λr8=>.i (r8 != 0) (.k r8) (.bn (zv0 zY zbA (Int.toNat 0+a.Ag.length+a.Items.length+b.Ag.length+b.Items.length+1) 0 (At.mk a.Kind a.Row a.Ag a.Func a.Items a.Op a.Bd) (At.mk b.Kind b.Row b.Ag b.Func b.Items b.Op b.Bd)) λr7=>.i (isL r7) (.k (getL r7)) (.bn (zc8 (Int.ofNat (getR r7).1.Ag.length) (Int.ofNat (getR r7).2.Ag.length)) λr6=>.i (r6 != 0) (.k r6) (.bn (zc8 (getR r7).1.Func (getR r7).2.Func) λr5=>.i (r5 != 0) (.k r5) (.bn (zbA (getR r7).1.Items (getR r7).2.Items) λr4=>.i (r4 != 0) (.k r4) (.bn (zc8 (getR r7).1.Op (getR r7).2.Op) λr3=>.i (r3 != 0) (.k r3) (.bn (zpL (getR r7).1.Bd (getR r7).2.Bd) λr2=>.k r2)))))))
def zns (zY:yC->yC->Bool×Int) (zbA:yE->yE->Bool×Int) (a:At) (b:At):=(zF7 zY zbA a b).fin default
theorem zNs (zY:yC->yC->Bool×Int) (zbA:yE->yE->Bool×Int) (zEm:SdP 89 (zeP zY)) (zSd:SdP 106 (zmr zbA)):SdP 53 (zhZ (zns zY zbA)):=
 sT (cx':=(zEB zY zbA)) (zk ⟨zEm,zow,zEM,zSd,zIr,trivial⟩) call53 func53 (lOK (aC (zQE zY zbA) aN))
abbrev zm0:=yD×yD×Int×Unit
abbrev zDK:=Int⊕(yD×yD)
def zA8 (zbF:At->At->Bool×Int) (a:yD) (b:yD) (i:Int):Wy zm0 Unit zDK:=.i (decide (i<Int.ofNat a.length)) (.i (decide (i<Int.ofNat b.length)) (.i (decide (0<=i)&&decide (i<Int.ofNat a.length)) (.i (decide (0<=i)&&decide (i<Int.ofNat b.length)) (.bn (zbF (At.mk (a.getD i.toNat default).At.Kind (a.getD i.toNat default).At.Row (a.getD i.toNat default).At.Ag (a.getD i.toNat default).At.Func (a.getD i.toNat default).At.Items (a.getD i.toNat default).At.Op (a.getD i.toNat default).At.Bd) (At.mk (b.getD i.toNat default).At.Kind (b.getD i.toNat default).At.Row (b.getD i.toNat default).At.Ag (b.getD i.toNat default).At.Func (b.getD i.toNat default).At.Items (b.getD i.toNat default).At.Op (b.getD i.toNat default).At.Bd)) λr1=>.i (r1 != 0) (.k (.inl (r1))) (.i (decide (0<=i)&&decide (i<Int.ofNat a.length)) (.i (decide (0<=i)&&decide (i<Int.ofNat b.length)) (.bn (zc8 (a.getD i.toNat default).Exp (b.getD i.toNat default).Exp) λr0=>.i (r0 != 0) (.k (.inl (r0))) (.h (a,b,(IntKind.i64.wrap (i+1)),()) ())) .d) .d)) .d) .d) (.k (.inr (a,b)))) (.k (.inr (a,b)))
def zlo (zbF:At->At->Bool×Int) (x:zm0) (y:Unit):=zA8 zbF x.1 x.2.1 x.2.2.1
def zA4 (zbF:At->At->Bool×Int) (n:Nat) (a:yD) (b:yD) (i:Int):=zC (zlo zbF) (.inl default) n (a,b,i,()) ()
def zLu (r:zDK):LTree ty:=.ite (isL r) (.done .ret [.lit (.int .i64 (getL r))] []) (.done (.exit 0) [.sl 69 (getR r).1,.sl 69 (getR r).2] [])
def zNH:LL ty zm0:=za (lSl 69) (za (lSl 69) (za zj zl))
def zLJ (x:zm0) (y:Unit):Nat:=(x.1.length+x.2.1.length+Int.toNat x.2.2.1+1)
def zBk (zbF:At->At->Bool×Int):=zbV base 53 [(53,(zhZ zbF)),(91,zmz)] [] [(2,(kpL [0,1,5]))] [(2,1,(kpL [0,1])),(2,0,(kpL [4]))] [(2,spW zNH zba6 (zlo zbF) (.inl default) zLu zLJ)] []
theorem zMi (zbF:At->At->Bool×Int):zF (zBk zbF) (lp (body f34) 0):=zq (id:=2) (hl:=rfl)
def zCS (zbF:At->At->Bool×Int) (a:yD) (b:yD):Wy0 (Int):=.bn (zA4 zbF (a.length+b.length+Int.toNat 0+1) a b 0) λr5=>.i (isL r5) (.k (getL r5)) (.bn (zc8 (Int.ofNat (getR r5).1.length) (Int.ofNat (getR r5).2.length)) λr4=>.k r4)
def zkB (zbF:At->At->Bool×Int) (a:yD) (b:yD):=(zCS zbF a b).fin default
theorem zIM (zbF:At->At->Bool×Int) (zUF:SdP 53 (zhZ zbF)):SdP 34 (zky (zkB zbF)):=
 sT (cx':=(zBk zbF)) (zk ⟨zUF,zow,trivial⟩) call34 func34 (lOK (aC (zMi zbF) aN))
abbrev zo7:=yE×yE×Int×Unit
abbrev zGg:=Int⊕(yE×yE)
def zQF (zY:yC->yC->Bool×Int) (a:yE) (b:yE) (i:Int):Wy zo7 Unit zGg:=.i (decide (i<Int.ofNat a.length)) (.i (decide (i<Int.ofNat b.length)) (.i (decide (0<=i)&&decide (i<Int.ofNat a.length)) (.i (decide (0<=i)&&decide (i<Int.ofNat b.length)) (.bn (zpL (a.getD i.toNat default).Value (b.getD i.toNat default).Value) λr1=>.i (r1 != 0) (.k (.inl (r1))) (.i (decide (0<=i)&&decide (i<Int.ofNat a.length)) (.i (decide (0<=i)&&decide (i<Int.ofNat b.length)) (.bn (zY (a.getD i.toNat default).Ann (b.getD i.toNat default).Ann) λr0=>.i (r0 != 0) (.k (.inl (r0))) (.h (a,b,(IntKind.i64.wrap (i+1)),()) ())) .d) .d)) .d) .d) (.k (.inr (a,b)))) (.k (.inr (a,b)))
def zDN (zY:yC->yC->Bool×Int) (x:zo7) (y:Unit):=zQF zY x.1 x.2.1 x.2.2.1
def zQu (zY:yC->yC->Bool×Int) (n:Nat) (a:yE) (b:yE) (i:Int):=zC (zDN zY) (.inl default) n (a,b,i,()) ()
def zPT (r:zGg):LTree ty:=.ite (isL r) (.done .ret [.lit (.int .i64 (getL r))] []) (.done (.exit 0) [.sl 100 (getR r).1,.sl 100 (getR r).2] [])
def zQI:LL ty zo7:=za (lSl 100) (za (lSl 100) (za zj zl))
def zOu (x:zo7) (y:Unit):Nat:=(x.1.length+x.2.1.length+Int.toNat x.2.2.1+1)
def zDW (zY:yC->yC->Bool×Int):=zbV base 53 [(89,(zeP zY)),(91,zmz),(107,zCE)] [] [(2,(kpL [0,1,5]))] [(2,1,(kpL [0,1])),(2,0,(kpL [4]))] [(2,spW zQI zba6 (zDN zY) (.inl default) zPT zOu)] []
theorem zOt (zY:yC->yC->Bool×Int):zF (zDW zY) (lp (body f106) 0):=zq (id:=2) (hl:=rfl)
def zSi (zY:yC->yC->Bool×Int) (a:yE) (b:yE):Wy0 (Int):=.bn (zQu zY (a.length+b.length+Int.toNat 0+1) a b 0) λr5=>.i (isL r5) (.k (getL r5)) (.bn (zc8 (Int.ofNat (getR r5).1.length) (Int.ofNat (getR r5).2.length)) λr4=>.k r4)
def zqn (zY:yC->yC->Bool×Int) (a:yE) (b:yE):=(zSi zY a b).fin default
theorem zL4 (zY:yC->yC->Bool×Int) (zEm:SdP 89 (zeP zY)):SdP 106 (zmr (zqn zY)):=
 sT (cx':=(zDW zY)) (zk ⟨zEm,zow,zIr,trivial⟩) call106 func106 (lOK (aC (zOt zY) aN))
def zmg:Nat->(yC->yC->Bool×Int)×(yD->yD->Bool×Int)×(At->At->Bool×Int)×(yE->yE->Bool×Int)
 | 0=>(λ_ _=>(false,default),λ_ _=>(false,default),λ_ _=>(false,default),λ_ _=>(false,default))
 | n+1=>(zBe ((zmg n).2.1),zkB ((zmg n).2.2.1),zns ((zmg n).1) ((zmg n).2.2.2),zqn ((zmg n).1))
def zo4 (n:Nat):yC->yC->Bool×Int:=(zmg n).1
def zku (n:Nat):yD->yD->Bool×Int:=(zmg n).2.1
def znA (n:Nat):At->At->Bool×Int:=(zmg n).2.2.1
def zml (n:Nat):yE->yE->Bool×Int:=(zmg n).2.2.2
theorem zYY (n:Nat):zo4 (n+1)=zBe (zku n):=rfl
theorem zNo (n:Nat):zku (n+1)=zkB (znA n):=rfl
theorem zRP (n:Nat):znA (n+1)=zns (zo4 n) (zml n):=rfl
theorem zQL (n:Nat):zml (n+1)=zqn (zo4 n):=rfl
theorem zxk:∀ n,SdP 89 (zeP (zo4 n))/\SdP 34 (zky (zku n))/\SdP 53 (zhZ (znA n))/\SdP 106 (zmr (zml n))
 | 0=>⟨zbb call89 (λ_=>rfl),zbb call34 (λ_=>rfl),zbb call53 (λ_=>rfl),zbb call106 (λ_=>rfl)⟩
 | n+1=>by
  have ih:=zxk n;exact ⟨zTO _ (ih.2.1),zIM _ (ih.2.2.1),zNs _ _ (ih.1) (ih.2.2.2),zL4 _ (ih.1)⟩
def zMf:yC->yC->Bool×Int:=zo4 1000
def zKg:Ab.Spec ty:=zeP zMf
theorem zXz:SdP 89 zKg:=(zxk 1000).1
def zmq:yD->yD->Bool×Int:=zku 1000
def zq2:Ab.Spec ty:=zky zmq
theorem zzJ:SdP 34 zq2:=(zxk 1000).2.1
def zjV:At->At->Bool×Int:=znA 1000
def zod:Ab.Spec ty:=zhZ zjV
theorem ztV:SdP 53 zod:=(zxk 1000).2.2.1
def zuy:yE->yE->Bool×Int:=zml 1000
def zDQ:Ab.Spec ty:=zmr zuy
theorem zN4:SdP 106 zDQ:=(zxk 1000).2.2.2
abbrev ziv:=yC×Int×Int×Int×Unit×Int×Int×Unit
abbrev zPh:=yC×Int×Int×Int×Int×At
abbrev zPy:=yC×Int×Int×Int×Int
abbrev zzi:=yC×Int×Int×Int×Unit
abbrev zON:=yC×Int×Int
abbrev zzt:=yC×Int×Int×Unit
def znw (zD:yC->Bool×Int) (a:yC) (most:Int) (i:Int) (k:Int) (n_:Int) (j:Int) (x_:At):Wy ziv (At×Unit) zPh:=.i (decide (j<Int.ofNat x_.Ag.length)) (.i (decide (0<=j)&&decide (j<Int.ofNat x_.Ag.length)) (.bn (zD (x_.Ag.getD j.toNat default)) λr0=>.h (a,most,i,k,(),(if IntKind.i64.wrap (1+r0)>n_ then IntKind.i64.wrap (1+r0) else n_),(IntKind.i64.wrap (j+1)),()) (x_,())) .d) (.k (a,most,i,k,n_,x_))
def zAP (zD:yC->Bool×Int) (x:ziv) (y:At×Unit):=znw zD x.1 x.2.1 x.2.2.1 x.2.2.2.1 x.2.2.2.2.2.1 x.2.2.2.2.2.2.1 y.1
def zAZ (zD:yC->Bool×Int) (n:Nat) (a:yC) (most:Int) (i:Int) (k:Int) (n_:Int) (j:Int) (x_:At):=zC (zAP zD) default n (a,most,i,k,(),n_,j,()) (x_,())
def zWg (r:zPh):LTree ty:=.done (.exit 4) [.sl 28 r.1,.lit (.int .i64 r.2.1),.lit (.int .i64 r.2.2.1),.lit (.int .i64 r.2.2.2.1),.ptr 300 0,.lit (.int .i64 r.2.2.2.2.1)] [.box (base.enc 67 r.2.2.2.2.2) false]
def zYA:LL ty ziv:=za (lSl 28) (za zj (za zj (za zj (za (ze3 300 0) (za zj (za zj zl))))))
def zXE:BL ty (At×Unit):=zhS (zf1 (λx=>(⟨x.1,⟨x.2.1,x.2.2.1⟩,x.2.2.2.1,x.2.2.2.2.1,x.2.2.2.2.2.1,x.2.2.2.2.2.2.1,⟨x.2.2.2.2.2.2.2.1,x.2.2.2.2.2.2.2.2.1,x.2.2.2.2.2.2.2.2.2.1⟩⟩:At)) (λx=>(x.Kind,x.Row.Table,x.Row.Seq,x.Ag,x.Func,x.Items,x.Op,x.Bd.Kind,x.Bd.Int,x.Bd.Text,())) (λ_=>rfl) (za (zR .i64) (za (zR .i64) (za (zR .i64) (za (lSl 23) (za (zR .i64) (za (lSl 100) (za (zR .i64) (za (zR .i64) (za (zR .i64) (za zrP zl))))))))))) false (zbd)
def zno (zD:yC->Bool×Int) (a:yC) (most:Int) (i:Int) (k:Int) (n_:Int) (j:Int) (x_:At):Wy ziv (At×Unit) zPy:=.i (decide (j<Int.ofNat x_.Items.length)) (.i (decide (0<=j)&&decide (j<Int.ofNat x_.Items.length)) (.bn (zD (x_.Items.getD j.toNat default).Ann) λr2=>.h (a,most,i,k,(),(if IntKind.i64.wrap (1+r2)>n_ then IntKind.i64.wrap (1+r2) else n_),(IntKind.i64.wrap (j+1)),()) (x_,())) .d) (.k (a,most,i,k,n_))
def zAS (zD:yC->Bool×Int) (x:ziv) (y:At×Unit):=zno zD x.1 x.2.1 x.2.2.1 x.2.2.2.1 x.2.2.2.2.2.1 x.2.2.2.2.2.2.1 y.1
def zIF (zD:yC->Bool×Int) (n:Nat) (a:yC) (most:Int) (i:Int) (k:Int) (n_:Int) (j:Int) (x_:At):=zC (zAS zD) default n (a,most,i,k,(),n_,j,()) (x_,())
def zU3 (r:zPy):LTree ty:=.done (.exit 6) [.sl 28 r.1,.lit (.int .i64 r.2.1),.lit (.int .i64 r.2.2.1),.lit (.int .i64 r.2.2.2.1),.lit (.int .i64 r.2.2.2.2)] []
def zoz (zD:yC->Bool×Int) (a:yC) (most:Int) (i:Int) (k:Int):Wy zzi Unit zON:=.i (decide (0<=i)&&decide (i<Int.ofNat a.length)) (.i (decide (k<Int.ofNat (a.getD i.toNat default).Fs.length)) (.i (decide (0<=i)&&decide (i<Int.ofNat a.length)) (.i (decide (0<=k)&&decide (k<Int.ofNat (a.getD i.toNat default).Fs.length)) (.i (((a.getD i.toNat default).Fs.getD k.toNat default).At.Kind==0) (.h (a,most,i,(IntKind.i64.wrap (k+1)),()) ()) (.bn (zAZ zD ((a.length+most.toNat +i.toNat +k.toNat +Int.toNat 1+Int.toNat 0+((a.getD i.toNat default).Fs.getD k.toNat default).At.Ag.length+((a.getD i.toNat default).Fs.getD k.toNat default).At.Items.length+1)+zb6 a) a most i k 1 0 (At.mk ((a.getD i.toNat default).Fs.getD k.toNat default).At.Kind ((a.getD i.toNat default).Fs.getD k.toNat default).At.Row ((a.getD i.toNat default).Fs.getD k.toNat default).At.Ag ((a.getD i.toNat default).Fs.getD k.toNat default).At.Func ((a.getD i.toNat default).Fs.getD k.toNat default).At.Items ((a.getD i.toNat default).Fs.getD k.toNat default).At.Op ((a.getD i.toNat default).Fs.getD k.toNat default).At.Bd)) λr5=>.bn (zIF zD ((r5.1.length+r5.2.1.toNat +r5.2.2.1.toNat +r5.2.2.2.1.toNat +r5.2.2.2.2.1.toNat +Int.toNat 0+r5.2.2.2.2.2.Ag.length+r5.2.2.2.2.2.Items.length+1)+zb6 r5.1) r5.1 r5.2.1 r5.2.2.1 r5.2.2.2.1 r5.2.2.2.2.1 0 (At.mk r5.2.2.2.2.2.Kind r5.2.2.2.2.2.Row r5.2.2.2.2.2.Ag r5.2.2.2.2.2.Func r5.2.2.2.2.2.Items r5.2.2.2.2.2.Op r5.2.2.2.2.2.Bd)) λr4=>.h ((r4.1),(if r4.2.2.2.2>r4.2.1 then r4.2.2.2.2 else r4.2.1),(r4.2.2.1),(IntKind.i64.wrap (r4.2.2.2.1+1)),()) ())) .d) .d) (.k (a,most,i))) .d
def zCR (zD:yC->Bool×Int) (x:zzi) (y:Unit):=zoz zD x.1 x.2.1 x.2.2.1 x.2.2.2.1
def zKB (zD:yC->Bool×Int) (n:Nat) (a:yC) (most:Int) (i:Int) (k:Int):=zC (zCR zD) default n (a,most,i,k,()) ()
def zXO (r:zON):LTree ty:=.done (.exit 2) [.sl 28 r.1,.lit (.int .i64 r.2.1),.lit (.int .i64 r.2.2)] []
def z09:LL ty zzi:=za (lSl 28) (za zj (za zj (za zj zl)))
def zoh (zD:yC->Bool×Int) (a:yC) (most:Int) (i:Int):Wy zzt Unit (Int):=.i (decide (i<Int.ofNat a.length)) (.bn (zKB zD ((a.length+most.toNat +i.toNat +Int.toNat 0+1)+zb6 a) a most i 0) λr8=>.h ((r8.1),(r8.2.1),(IntKind.i64.wrap (r8.2.2+1)),()) ()) (.k most)
def zCO (zD:yC->Bool×Int) (x:zzt) (y:Unit):=zoh zD x.1 x.2.1 x.2.2.1
def zKs (zD:yC->Bool×Int) (n:Nat) (a:yC) (most:Int) (i:Int):=zC (zCO zD) default n (a,most,i,()) ()
def zYO:LL ty zzt:=za (lSl 28) (za zj (za zj zl))
def zWK (x:ziv) (y:At×Unit):Nat:=((x.1.length+Int.toNat x.2.1+Int.toNat x.2.2.1+Int.toNat x.2.2.2.1+Int.toNat x.2.2.2.2.2.1+Int.toNat x.2.2.2.2.2.2.1+y.1.Ag.length+y.1.Items.length+1)+zb6 x.1)
def zYg (x:zzi) (y:Unit):Nat:=((x.1.length+Int.toNat x.2.1+Int.toNat x.2.2.1+Int.toNat x.2.2.2.1+1)+zb6 x.1)
def zXK (x:zzt) (y:Unit):Nat:=((x.1.length+Int.toNat x.2.1+Int.toNat x.2.2.1+1)+zb6 x.1)
def zol (zD:yC->Bool×Int):=zbV base 75 [(108,(zpY zD))] [] [(3,(kpL [0,3,4])),(6,(kpL [0,3,4,5])),(12,(kpL [0,3,4,5,6,7,8])),(16,(kpL [0,3,4,5,6,7,9]))] [(3,1,(kpL [3])),(6,3,(kpL [0,3,4])),(12,5,(kpL [0,3,4,5,6,7])),(16,7,(kpL [0,3,4,5,7]))] [(12,spW zYA zXE (zAP zD) default zWg zWK),(16,spW zYA zXE (zAS zD) default zU3 zWK),(6,spW z09 zba6 (zCR zD) default zXO zYg),(3,spW zYO zba6 (zCO zD) default zTB zXK)] []
theorem zVh (zD:yC->Bool×Int):zF (zol zD) (lp (body f108) 2):=zq (id:=12) (hl:=rfl)
theorem zWN (zD:yC->Bool×Int):zF (zol zD) (lp (body f108) 3):=zq (id:=16) (hl:=rfl)
theorem zYa (zD:yC->Bool×Int):zF (zol zD) (lp (body f108) 1):=zq (id:=6) (hl:=rfl)
theorem zXD (zD:yC->Bool×Int):zF (zol zD) (lp (body f108) 0):=zq (id:=3) (hl:=rfl)
def zME (zD:yC->Bool×Int) (a:yC):Wy0 (Int):=.bn (zKs zD ((a.length+Int.toNat 0+Int.toNat 0+1)+zb6 a) a 0 0) λr10=>.k r10
def zBx (zD:yC->Bool×Int) (a:yC):=(zME zD a).fin default
theorem zUc (zD:yC->Bool×Int) (z3m:SdP 108 (zpY zD)):SdP 108 (zpY (zBx zD)):=
 sT (cx':=(zol zD)) (zk ⟨z3m,trivial⟩) call108 func108 (lOK (aC (zXD zD) (aC (zYa zD) (aC (zVh zD) (aC (zWN zD) aN)))))
def zZc:Nat->(yC->Bool×Int)
 | 0=>λ_=>(false,default)
 | n+1=>zBx (zZc n)
def zl5 (n:Nat):yC->Bool×Int:=zZc n
theorem zY7 (n:Nat):zl5 (n+1)=zBx (zl5 n):=rfl
theorem zUH:∀ n,SdP 108 (zpY (zl5 n))
 | 0=>zbb call108 (λ_=>rfl)
 | n+1=>by
  have ih:=zUH n;exact zUc _ (ih)
def zLA:yC->Bool×Int:=zl5 1000
def zKH:Ab.Spec ty:=zpY zLA
theorem zXA:SdP 108 zKH:=(zUH 1000)
abbrev zmL:=yC×Int×Int×Int×Unit×Int×Unit
abbrev zW7:=yC×Int×Int×Int×At
abbrev zXj:=yC×Int×Int×Int
abbrev zFc:=yC×Int×Int×Int×Unit
abbrev zWW:=yC×Int×Int
abbrev zE8:=yC×Int×Int×Unit
def zsc (zX:yC->Bool×Int) (a:yC) (n_:Int) (i:Int) (k:Int) (j:Int) (x_:At):Wy zmL (At×Unit) zW7:=.i (decide (j<Int.ofNat x_.Ag.length)) (.i (decide (0<=j)&&decide (j<Int.ofNat x_.Ag.length)) (.bn (zX (x_.Ag.getD j.toNat default)) λr0=>.h (a,(IntKind.i64.wrap (n_+r0)),i,k,(),(IntKind.i64.wrap (j+1)),()) (x_,())) .d) (.k (a,n_,i,k,x_))
def zFf (zX:yC->Bool×Int) (x:zmL) (y:At×Unit):=zsc zX x.1 x.2.1 x.2.2.1 x.2.2.2.1 x.2.2.2.2.2.1 y.1
def zP4 (zX:yC->Bool×Int) (n:Nat) (a:yC) (n_:Int) (i:Int) (k:Int) (j:Int) (x_:At):=zC (zFf zX) default n (a,n_,i,k,(),j,()) (x_,())
def z2E (r:zW7):LTree ty:=.done (.exit 4) [.sl 28 r.1,.lit (.int .i64 r.2.1),.lit (.int .i64 r.2.2.1),.lit (.int .i64 r.2.2.2.1),.ptr 284 0] [.box (base.enc 67 r.2.2.2.2) false]
def z4F:LL ty zmL:=za (lSl 28) (za zj (za zj (za zj (za (ze3 284 0) (za zj zl)))))
def zsg (zX:yC->Bool×Int) (a:yC) (n_:Int) (i:Int) (k:Int) (j:Int) (x_:At):Wy zmL (At×Unit) zXj:=.i (decide (j<Int.ofNat x_.Items.length)) (.i (decide (0<=j)&&decide (j<Int.ofNat x_.Items.length)) (.bn (zX (x_.Items.getD j.toNat default).Ann) λr2=>.h (a,(IntKind.i64.wrap (IntKind.i64.wrap (n_+1)+r2)),i,k,(),(IntKind.i64.wrap (j+1)),()) (x_,())) .d) (.k (a,n_,i,k))
def zFw (zX:yC->Bool×Int) (x:zmL) (y:At×Unit):=zsg zX x.1 x.2.1 x.2.2.1 x.2.2.2.1 x.2.2.2.2.2.1 y.1
def zPF (zX:yC->Bool×Int) (n:Nat) (a:yC) (n_:Int) (i:Int) (k:Int) (j:Int) (x_:At):=zC (zFw zX) default n (a,n_,i,k,(),j,()) (x_,())
def z13 (r:zXj):LTree ty:=.done (.exit 6) [.sl 28 r.1,.lit (.int .i64 r.2.1),.lit (.int .i64 r.2.2.1),.lit (.int .i64 r.2.2.2)] []
def zuX (zX:yC->Bool×Int) (a:yC) (n_:Int) (i:Int) (k:Int):Wy zFc Unit zWW:=.i (decide (0<=i)&&decide (i<Int.ofNat a.length)) (.i (decide (k<Int.ofNat (a.getD i.toNat default).Fs.length)) (.i (decide (0<=i)&&decide (i<Int.ofNat a.length)) (.i (decide (0<=k)&&decide (k<Int.ofNat (a.getD i.toNat default).Fs.length)) (.bn (zP4 zX ((a.length+(IntKind.i64.wrap (n_+1)).toNat +i.toNat +k.toNat +Int.toNat 0+((a.getD i.toNat default).Fs.getD k.toNat default).At.Ag.length+((a.getD i.toNat default).Fs.getD k.toNat default).At.Items.length+1)+zb6 a) a (IntKind.i64.wrap (n_+1)) i k 0 (At.mk ((a.getD i.toNat default).Fs.getD k.toNat default).At.Kind ((a.getD i.toNat default).Fs.getD k.toNat default).At.Row ((a.getD i.toNat default).Fs.getD k.toNat default).At.Ag ((a.getD i.toNat default).Fs.getD k.toNat default).At.Func ((a.getD i.toNat default).Fs.getD k.toNat default).At.Items ((a.getD i.toNat default).Fs.getD k.toNat default).At.Op ((a.getD i.toNat default).Fs.getD k.toNat default).At.Bd)) λr5=>.bn (zPF zX ((r5.1.length+r5.2.1.toNat +r5.2.2.1.toNat +r5.2.2.2.1.toNat +Int.toNat 0+r5.2.2.2.2.Ag.length+r5.2.2.2.2.Items.length+1)+zb6 r5.1) r5.1 r5.2.1 r5.2.2.1 r5.2.2.2.1 0 (At.mk r5.2.2.2.2.Kind r5.2.2.2.2.Row r5.2.2.2.2.Ag r5.2.2.2.2.Func r5.2.2.2.2.Items r5.2.2.2.2.Op r5.2.2.2.2.Bd)) λr4=>.h ((r4.1),(r4.2.1),(r4.2.2.1),(IntKind.i64.wrap (r4.2.2.2+1)),()) ()) .d) .d) (.k (a,n_,i))) .d
def zG4 (zX:yC->Bool×Int) (x:zFc) (y:Unit):=zuX zX x.1 x.2.1 x.2.2.1 x.2.2.2.1
def zRr (zX:yC->Bool×Int) (n:Nat) (a:yC) (n_:Int) (i:Int) (k:Int):=zC (zG4 zX) default n (a,n_,i,k,()) ()
def z49 (r:zWW):LTree ty:=.done (.exit 2) [.sl 28 r.1,.lit (.int .i64 r.2.1),.lit (.int .i64 r.2.2)] []
def z7C:LL ty zFc:=za (lSl 28) (za zj (za zj (za zj zl)))
def zvd (zX:yC->Bool×Int) (a:yC) (n_:Int) (i:Int):Wy zE8 Unit (Int):=.i (decide (i<Int.ofNat a.length)) (.bn (zRr zX ((a.length+(IntKind.i64.wrap (n_+1)).toNat +i.toNat +Int.toNat 0+1)+zb6 a) a (IntKind.i64.wrap (n_+1)) i 0) λr8=>.h ((r8.1),(r8.2.1),(IntKind.i64.wrap (r8.2.2+1)),()) ()) (.k n_)
def zHr (zX:yC->Bool×Int) (x:zE8) (y:Unit):=zvd zX x.1 x.2.1 x.2.2.1
def zQ4 (zX:yC->Bool×Int) (n:Nat) (a:yC) (n_:Int) (i:Int):=zC (zHr zX) default n (a,n_,i,()) ()
def z7V:LL ty zE8:=za (lSl 28) (za zj (za zj zl))
def z2N (x:zmL) (y:At×Unit):Nat:=((x.1.length+Int.toNat x.2.1+Int.toNat x.2.2.1+Int.toNat x.2.2.2.1+Int.toNat x.2.2.2.2.2.1+y.1.Ag.length+y.1.Items.length+1)+zb6 x.1)
def z4D (x:zFc) (y:Unit):Nat:=((x.1.length+Int.toNat x.2.1+Int.toNat x.2.2.1+Int.toNat x.2.2.2.1+1)+zb6 x.1)
def z5T (x:zE8) (y:Unit):Nat:=((x.1.length+Int.toNat x.2.1+Int.toNat x.2.2.1+1)+zb6 x.1)
def zuB (zX:yC->Bool×Int):=zbV base 71 [(109,(zpY zX))] [] [(3,(kpL [0,3,4])),(7,(kpL [0,3,4,5])),(12,(kpL [0,3,4,5,6,7])),(16,(kpL [0,3,4,5,6,8]))] [(3,1,(kpL [3])),(7,3,(kpL [0,3,4])),(12,5,(kpL [0,3,4,5,6])),(16,7,(kpL [0,3,4,5]))] [(12,spW z4F zXE (zFf zX) default z2E z2N),(16,spW z4F zXE (zFw zX) default z13 z2N),(7,spW z7C zba6 (zG4 zX) default z49 z4D),(3,spW z7V zba6 (zHr zX) default zTB z5T)] []
theorem z2n (zX:yC->Bool×Int):zF (zuB zX) (lp (body f109) 2):=zq (id:=12) (hl:=rfl)
theorem z2P (zX:yC->Bool×Int):zF (zuB zX) (lp (body f109) 3):=zq (id:=16) (hl:=rfl)
theorem z5v (zX:yC->Bool×Int):zF (zuB zX) (lp (body f109) 1):=zq (id:=7) (hl:=rfl)
theorem z44 (zX:yC->Bool×Int):zF (zuB zX) (lp (body f109) 0):=zq (id:=3) (hl:=rfl)
def zTr (zX:yC->Bool×Int) (a:yC):Wy0 (Int):=.bn (zQ4 zX ((a.length+Int.toNat 0+Int.toNat 0+1)+zb6 a) a 0 0) λr10=>.k r10
def zHn (zX:yC->Bool×Int) (a:yC):=(zTr zX a).fin default
theorem zZb (zX:yC->Bool×Int) (z8t:SdP 109 (zpY zX)):SdP 109 (zpY (zHn zX)):=
 sT (cx':=(zuB zX)) (zk ⟨z8t,trivial⟩) call109 func109 (lOK (aC (z44 zX) (aC (z5v zX) (aC (z2n zX) (aC (z2P zX) aN)))))
def z9W:Nat->(yC->Bool×Int)
 | 0=>λ_=>(false,default)
 | n+1=>zHn (z9W n)
def zxK (n:Nat):yC->Bool×Int:=z9W n
theorem z7w (n:Nat):zxK (n+1)=zHn (zxK n):=rfl
theorem z33:∀ n,SdP 109 (zpY (zxK n))
 | 0=>zbb call109 (λ_=>rfl)
 | n+1=>by
  have ih:=z33 n;exact zZb _ (ih)
def zVp:yC->Bool×Int:=zxK 1000
def zRA:Ab.Spec ty:=zpY zVp
theorem z5w:SdP 109 zRA:=(z33 1000)
abbrev zFb:=yC×Int×Int×Unit
abbrev zXx:=Bool⊕(yC×Int)
abbrev zE6:=yC×Int×Unit
def zAs (a:yC) (i:Int) (k:Int):Wy zFb Unit zXx:=.i (decide (0<=i)&&decide (i<Int.ofNat a.length)) (.i (decide (k<Int.ofNat (a.getD i.toNat default).Fs.length)) (.i (decide (0<=i)&&decide (i<Int.ofNat a.length)) (.i (decide (0<=k)&&decide (k<Int.ofNat (a.getD i.toNat default).Fs.length)) (.i (decide (((a.getD i.toNat default).Fs.getD k.toNat default).Exp>64)) (.k (.inl false)) (.i (decide (0<=i)&&decide (i<Int.ofNat a.length)) (.i (decide (0<=k)&&decide (k<Int.ofNat (a.getD i.toNat default).Fs.length)) (.i (decide (Int.ofNat ((a.getD i.toNat default).Fs.getD k.toNat default).At.Items.length>1024)) (.k (.inl false)) (.h (a,i,(IntKind.i64.wrap (k+1)),()) ())) .d) .d)) .d) .d) (.k (.inr (a,i)))) .d
def zMl (x:zFb) (y:Unit):=zAs x.1 x.2.1 x.2.2.1
def zW3 (n:Nat) (a:yC) (i:Int) (k:Int):=zC (zMl) (.inl default) n (a,i,k,()) ()
def z8q (r:zXx):LTree ty:=.ite (isL r) (.done .ret [.lit (.bool (getL r))] []) (.done (.exit 2) [.sl 28 (getR r).1,.lit (.int .i64 (getR r).2)] [])
def zba9:LL ty zFb:=za (lSl 28) (za zj (za zj zl))
def zz6 (a:yC) (i:Int):Wy zE6 Unit (Bool⊕Unit):=.i (decide (i<Int.ofNat a.length)) (.i (decide (0<=i)&&decide (i<Int.ofNat a.length)) (.i (decide (Int.ofNat (a.getD i.toNat default).Fs.length>64)) (.k (.inl false)) (.bn (zW3 ((a.length+i.toNat +Int.toNat 0+1)+zb6 a) a i 0) λr0=>.i (isL r0) (.k (.inl (getL r0))) (.h ((getR r0).1,(IntKind.i64.wrap ((getR r0).2+1)),()) ()))) .d) (.k (.inr ()))
def zLZ (x:zE6) (y:Unit):=zz6 x.1 x.2.1
def zW8 (n:Nat) (a:yC) (i:Int):=zC (zLZ) (.inl default) n (a,i,()) ()
def zba7:LL ty zE6:=za (lSl 28) (za zj zl)
def z9q (x:zFb) (y:Unit):Nat:=((x.1.length+Int.toNat x.2.1+Int.toNat x.2.2.1+1)+zb6 x.1)
def z8N (x:zE6) (y:Unit):Nat:=((x.1.length+Int.toNat x.2.1+1)+zb6 x.1)
def zL2:=zbV base 65 [(108,zKH),(109,zRA)] [] [(4,(kpL [0,3])),(9,(kpL [0,3,4]))] [(4,1,[]),(4,0,(kpL [2])),(9,3,(kpL [0,3])),(9,0,(kpL [2]))] [(9,spW zba9 zba6 (zMl) (.inl default) z8q z9q),(4,spW zba7 zba6 (zLZ) (.inl default) zSV z8N)] []
theorem z8W:zF zL2 (lp (body f54) 1):=zq (id:=9) (hl:=rfl)
theorem z8D:zF zL2 (lp (body f54) 0):=zq (id:=4) (hl:=rfl)
def zY8 (a:yC):Wy0 (Bool):=.i (decide (Int.ofNat a.length>512)) (.k false) (.bn (zLA a) λr4=>.i (decide (r4>8)) (.k false) (.bn (zVp a) λr3=>.i (decide (r3>4096)) (.k false) (.bn (zW8 ((a.length+Int.toNat 0+1)+zb6 a) a 0) λr2=>.i (isL r2) (.k (getL r2)) (.k true))))
def zDj (a:yC):=(zY8 a).fin default
def zHR:=zi zZm λx=>((zDj x.1).1,zYq (zDj x.1).2)
theorem zPr:SdP 54 zHR:=
 sT (cx':=zL2) (zk ⟨zXA,z5w,trivial⟩) call54 func54 (lOK (aC z8D (aC z8W aN)))
abbrev zDF:=yC×Int×Unit×Int×Unit
abbrev zTz:=Bool⊕(yC×Int)
abbrev zDm:=yC×Int×Unit
def zqi (z7:At->Bool×Bool) (a:yC) (i:Int) (k:Int) (t:Term):Wy zDF (Term×Unit) zTz:=.i (decide (k<Int.ofNat t.Fs.length)) (.i (decide (0<=k)&&decide (k<Int.ofNat t.Fs.length)) (.i (decide ((t.Fs.getD k.toNat default).Exp<1)) (.k (.inl false)) (.i (decide ((t.Fs.getD k.toNat default).Exp>1)) (.i (decide ((t.Fs.getD k.toNat default).At.Kind≥3)) (.k (.inl false)) (.bn (z7 (At.mk (t.Fs.getD k.toNat default).At.Kind (t.Fs.getD k.toNat default).At.Row (t.Fs.getD k.toNat default).At.Ag (t.Fs.getD k.toNat default).At.Func (t.Fs.getD k.toNat default).At.Items (t.Fs.getD k.toNat default).At.Op (t.Fs.getD k.toNat default).At.Bd)) λr1=>.i (!r1) (.k (.inl false)) (.i (decide (k>0)) (.i (decide (0<=IntKind.i64.wrap (k - 1))&&decide (IntKind.i64.wrap (k - 1)<Int.ofNat t.Fs.length)) (.bn (zjV (At.mk (t.Fs.getD (IntKind.i64.wrap (k - 1)).toNat default).At.Kind (t.Fs.getD (IntKind.i64.wrap (k - 1)).toNat default).At.Row (t.Fs.getD (IntKind.i64.wrap (k - 1)).toNat default).At.Ag (t.Fs.getD (IntKind.i64.wrap (k - 1)).toNat default).At.Func (t.Fs.getD (IntKind.i64.wrap (k - 1)).toNat default).At.Items (t.Fs.getD (IntKind.i64.wrap (k - 1)).toNat default).At.Op (t.Fs.getD (IntKind.i64.wrap (k - 1)).toNat default).At.Bd) (At.mk (t.Fs.getD k.toNat default).At.Kind (t.Fs.getD k.toNat default).At.Row (t.Fs.getD k.toNat default).At.Ag (t.Fs.getD k.toNat default).At.Func (t.Fs.getD k.toNat default).At.Items (t.Fs.getD k.toNat default).At.Op (t.Fs.getD k.toNat default).At.Bd)) λr0=>.i (decide (r0≥0)) (.k (.inl false)) (.h (a,i,(),(IntKind.i64.wrap (k+1)),()) (t,()))) .d) (.h (a,i,(),(IntKind.i64.wrap (k+1)),()) (t,()))))) (.bn (z7 (At.mk (t.Fs.getD k.toNat default).At.Kind (t.Fs.getD k.toNat default).At.Row (t.Fs.getD k.toNat default).At.Ag (t.Fs.getD k.toNat default).At.Func (t.Fs.getD k.toNat default).At.Items (t.Fs.getD k.toNat default).At.Op (t.Fs.getD k.toNat default).At.Bd)) λr3=>.i (!r3) (.k (.inl false)) (.i (decide (k>0)) (.i (decide (0<=IntKind.i64.wrap (k - 1))&&decide (IntKind.i64.wrap (k - 1)<Int.ofNat t.Fs.length)) (.bn (zjV (At.mk (t.Fs.getD (IntKind.i64.wrap (k - 1)).toNat default).At.Kind (t.Fs.getD (IntKind.i64.wrap (k - 1)).toNat default).At.Row (t.Fs.getD (IntKind.i64.wrap (k - 1)).toNat default).At.Ag (t.Fs.getD (IntKind.i64.wrap (k - 1)).toNat default).At.Func (t.Fs.getD (IntKind.i64.wrap (k - 1)).toNat default).At.Items (t.Fs.getD (IntKind.i64.wrap (k - 1)).toNat default).At.Op (t.Fs.getD (IntKind.i64.wrap (k - 1)).toNat default).At.Bd) (At.mk (t.Fs.getD k.toNat default).At.Kind (t.Fs.getD k.toNat default).At.Row (t.Fs.getD k.toNat default).At.Ag (t.Fs.getD k.toNat default).At.Func (t.Fs.getD k.toNat default).At.Items (t.Fs.getD k.toNat default).At.Op (t.Fs.getD k.toNat default).At.Bd)) λr2=>.i (decide (r2≥0)) (.k (.inl false)) (.h (a,i,(),(IntKind.i64.wrap (k+1)),()) (t,()))) .d) (.h (a,i,(),(IntKind.i64.wrap (k+1)),()) (t,())))))) .d) (.k (.inr (a,i)))
def zD7 (z7:At->Bool×Bool) (x:zDF) (y:Term×Unit):=zqi z7 x.1 x.2.1 x.2.2.2.1 y.1
def zEo (z7:At->Bool×Bool) (n:Nat) (a:yC) (i:Int) (k:Int) (t:Term):=zC (zD7 z7) (.inl default) n (a,i,(),k,()) (t,())
def zYW (r:zTz):LTree ty:=.ite (isL r) (.done .ret [.lit (.bool (getL r))] []) (.done (.exit 2) [.sl 28 (getR r).1,.lit (.int .i64 (getR r).2)] [])
def z2d:LL ty zDF:=za (lSl 28) (za zj (za (ze3 372 0) (za zj zl)))
def zsd (z7:At->Bool×Bool) (a:yC) (i:Int):Wy zDm Unit (Bool⊕Unit):=.i (decide (i<Int.ofNat a.length)) (.i (decide (0<=i)&&decide (i<Int.ofNat a.length)) (.i (decide ((a.getD i.toNat default).Cf<1)) (.k (.inl false)) (.i (decide ((a.getD i.toNat default).Cf>1152921504606846976)) (.k (.inl false)) (.i (decide (i>0)) (.i (decide (0<=IntKind.i64.wrap (i - 1))&&decide (IntKind.i64.wrap (i - 1)<Int.ofNat a.length)) (.bn (zmq (a.getD (IntKind.i64.wrap (i - 1)).toNat default).Fs (a.getD i.toNat default).Fs) λr9=>.i (decide (r9≥0)) (.k (.inl false)) (.bn (zEo z7 ((a.length+i.toNat +Int.toNat 0+(a.getD i.toNat default).Fs.length+1)+zb6 a) a i 0 (a.getD i.toNat default)) λr8=>.i (isL r8) (.k (.inl (getL r8))) (.h ((getR r8).1,(IntKind.i64.wrap ((getR r8).2+1)),()) ()))) .d) (.bn (zEo z7 ((a.length+i.toNat +Int.toNat 0+(a.getD i.toNat default).Fs.length+1)+zb6 a) a i 0 (a.getD i.toNat default)) λr10=>.i (isL r10) (.k (.inl (getL r10))) (.h ((getR r10).1,(IntKind.i64.wrap ((getR r10).2+1)),()) ()))))) .d) (.k (.inr ()))
def zFg (z7:At->Bool×Bool) (x:zDm) (y:Unit):=zsd z7 x.1 x.2.1
def zOI (z7:At->Bool×Bool) (n:Nat) (a:yC) (i:Int):=zC (zFg z7) (.inl default) n (a,i,()) ()
def z4p:LL ty zDm:=za (lSl 28) (za zj zl)
def zY2 (x:zDF) (y:Term×Unit):Nat:=((x.1.length+Int.toNat x.2.1+Int.toNat x.2.2.2.1+y.1.Fs.length+1)+zb6 x.1)
def z2b (x:zDm) (y:Unit):Nat:=((x.1.length+Int.toNat x.2.1+1)+zb6 x.1)
def zFA (z7:At->Bool×Bool):=zbV base 93 [(34,zq2),(53,zod),(54,zHR),(55,(znX z7))] [] [(4,(kpL [0,3])),(10,(kpL [0,3,4,5]))] [(4,1,[]),(4,0,(kpL [2])),(10,3,(kpL [0,3])),(10,0,(kpL [2]))] [(10,spW z2d zTu (zD7 z7) (.inl default) zYW zY2),(4,spW z4p zba6 (zFg z7) (.inl default) zSV z2b)] []
theorem zY0 (z7:At->Bool×Bool):zF (zFA z7) (lp (body f16) 1):=zq (id:=10) (hl:=rfl)
theorem z3s (z7:At->Bool×Bool):zF (zFA z7) (lp (body f16) 0):=zq (id:=4) (hl:=rfl)
def zRF (z7:At->Bool×Bool) (a:yC):Wy0 (Bool):=.bn (zDj a) λr15=>.i (!r15) (.k false) (.bn (zOI z7 ((a.length+Int.toNat 0+1)+zb6 a) a 0) λr14=>.i (isL r14) (.k (getL r14)) (.k true))
def zzX (z7:At->Bool×Bool) (a:yC):=(zRF z7 a).fin default
theorem zXV (z7:At->Bool×Bool) (zXF:SdP 55 (znX z7)):SdP 16 (ziP (zzX z7)):=
 sT (cx':=(zFA z7)) (zk ⟨zzJ,ztV,zPr,zXF,trivial⟩) call16 func16 (lOK (aC (z3s z7) (aC (zY0 z7) aN)))
def zbaP:=zbr base 9 [(89,zKg)]
def z0H (a:yC) (b:yC):Wy0 (Bool):=.bn (zMf a b) λr0=>.k (r0==0)
def zmu (a:yC) (b:yC):=(z0H a b).fin default
def zuH:=zi zWy λx=>((zmu x.1 x.2.1).1,zYq (zmu x.1 x.2.1).2)
theorem zzB:SdP 30 zuH:=
 sT (cx':=zbaP) (zk ⟨zXz,trivial⟩) call30 func30 (lOK aN)
def z6j:=zbr base 42 []
def zUN (a:yC):Wy0 (Bool):=.i (Int.ofNat a.length==1) (.i (decide ((0:Int)<=(0:Int))&&decide (0<Int.ofNat a.length)) (.i ((a.getD (Int.toNat 0) default).Cf==1) (.i (decide ((0:Int)<=(0:Int))&&decide (0<Int.ofNat a.length)) (.i (Int.ofNat (a.getD (Int.toNat 0) default).Fs.length==1) (.i (decide ((0:Int)<=(0:Int))&&decide (0<Int.ofNat a.length)) (.i (decide ((0:Int)<=(0:Int))&&decide (0<Int.ofNat (a.getD (Int.toNat 0) default).Fs.length)) (.i (decide (((a.getD (Int.toNat 0) default).Fs.getD (Int.toNat 0) default).At.Kind≥2)) (.i (decide ((0:Int)<=(0:Int))&&decide (0<Int.ofNat a.length)) (.i (decide ((0:Int)<=(0:Int))&&decide (0<Int.ofNat (a.getD (Int.toNat 0) default).Fs.length)) (.k (((a.getD (Int.toNat 0) default).Fs.getD (Int.toNat 0) default).Exp==1)) .d) .d) (.k false)) .d) .d) (.k false)) .d) (.k false)) .d) (.k false)
def zrM (a:yC):=(zUN a).fin default
def zEb:=zi zZm λx=>((zrM x.1).1,zYq (zrM x.1).2)
theorem zKe:SdP 99 zEb:=
 sT (cx':=z6j) (zk trivial) call99 func99 (lOK aN)
abbrev zEu:=yC×Int×Unit
def zpQ (a:yC) (i:Int):Wy zEu Unit (Bool⊕Unit):=.i (decide (i<Int.ofNat a.length)) (.i (decide (0<=i)&&decide (i<Int.ofNat a.length)) (.i (Int.ofNat (a.getD i.toNat default).Fs.length==0) (.k (.inl true)) (.h (a,(IntKind.i64.wrap (i+1)),()) ())) .d) (.k (.inr ()))
def zEf (x:zEu) (y:Unit):=zpQ x.1 x.2.1
def zMO (n:Nat) (a:yC) (i:Int):=zC (zEf) (.inl default) n (a,i,()) ()
def z2v:LL ty zEu:=za (lSl 28) (za zj zl)
def zMv:=zbV base 17 [] [] [(2,(kpL [0,3]))] [(2,1,[]),(2,0,(kpL [2]))] [(2,spW z2v zba6 (zEf) (.inl default) zSV λx y=>(x.1.length+Int.toNat x.2.1+1))] []
theorem z08:zF zMv (lp (body f100) 0):=zq (id:=2) (hl:=rfl)
def zOT (a:yC):Wy0 (Bool):=.bn (zMO (a.length+Int.toNat 0+1) a 0) λr0=>.i (isL r0) (.k (getL r0)) (.k false)
def zjm (a:yC):=(zOT a).fin default
def zAO:=zi zZm λx=>((zjm x.1).1,zYq (zjm x.1).2)
theorem zHg:SdP 100 zAO:=
 sT (cx':=zMv) (zk trivial) call100 func100 (lOK (aC z08 aN))
def z9a:=zbr base 36 []
def zXw (v:Value):Wy0 (Bool):=.i (v.Kind==0) (.k (v.Text.toList==(ByteArray.mk #[]).toList)) (.i (v.Kind==1) (.i (v.Int==0) (.k (decide (Int.ofNat v.Text.size<=255))) (.k false)) (.i (v.Kind==2) (.i (v.Text.toList==(ByteArray.mk #[]).toList) (.i (v.Int==0) (.k true) (.k (v.Int==1))) (.k false)) (.k false)))
def zAv (v:Value):=(zXw v).fin default
def zOP:=zi zbaC λx=>((zAv x.1).1,zYq (zAv x.1).2)
theorem z2J:SdP 158 zOP:=
 sT (cx':=z9a) (zk trivial) call158 func158 (lOK aN)
abbrev zDo:=Int×yE×Unit×Int×Unit
def zwR (fn:Int) (items:yE) (i:Int) (bound:Value):Wy zDo (Value×Unit) (Bool⊕Unit):=.i (decide (i<Int.ofNat items.length)) (.i (decide (0<=i)&&decide (i<Int.ofNat items.length)) (.bn (zAv (items.getD i.toNat default).Value) λr0=>.i (!r0) (.k (.inl false)) (.i ((items.getD i.toNat default).Value.Kind != bound.Kind) (.k (.inl false)) (.i (fn==0) (.i ((items.getD i.toNat default).Value.Int != 1) (.k (.inl false)) (.h (fn,items,(),(IntKind.i64.wrap (i+1)),()) (bound,()))) (.h (fn,items,(),(IntKind.i64.wrap (i+1)),()) (bound,()))))) .d) (.k (.inr ()))
def zI4 (x:zDo) (y:Value×Unit):=zwR x.1 x.2.1 x.2.2.2.1 y.1
def zI5 (n:Nat) (fn:Int) (items:yE) (i:Int) (bound:Value):=zC (zI4) (.inl default) n (fn,items,(),i,()) (bound,())
def z71:LL ty zDo:=za zj (za (lSl 100) (za (ze3 276 0) (za zj zl)))
def z8y:BL ty (Value×Unit):=zhS (zf1 (λx=>(⟨x.1,x.2.1,x.2.2.1⟩:Value)) (λx=>(x.Kind,x.Int,x.Text,())) (λ_=>rfl) (za (zR .i64) (za (zR .i64) (za zrP zl)))) false (zbd)
def z5V (x:zDo) (y:Value×Unit):Nat:=(Int.toNat x.1+x.2.1.length+Int.toNat x.2.2.2.1+1)
def zT7:=zbV base 69 [(158,zOP)] [] [(4,(kpL [0,1,7,9]))] [(4,1,[]),(4,0,(kpL [8]))] [(4,spW z71 z8y (zI4) (.inl default) zSV z5V)] []
theorem z6g:zF zT7 (lp (body f111) 0):=zq (id:=4) (hl:=rfl)
def zXl (fn:Int) (items:yE) (op:Int) (bound:Value):Wy0 (Bool):=.i (decide (fn<0)) (.k false) (.i (decide (fn>3)) (.k false) (.i (decide (op<5)) (.k false) (.i (decide (op>10)) (.k false) (.bn (zAv bound) λr4=>.i (!r4) (.k false) (.i (decide (fn<=1)) (.i (bound.Kind != 0) (.k false) (.bn (zI5 (fn.toNat +items.length+Int.toNat 0+1) fn items 0 bound) λr2=>.i (isL r2) (.k (getL r2)) (.k true))) (.bn (zI5 (fn.toNat +items.length+Int.toNat 0+1) fn items 0 bound) λr3=>.i (isL r3) (.k (getL r3)) (.k true)))))))
def zAu (fn:Int) (items:yE) (op:Int) (bound:Value):=(zXl fn items op bound).fin default
def zP3:=zi zWx λx=>((zAu x.1 x.2.1 x.2.2.1 x.2.2.2.1).1,zYq (zAu x.1 x.2.1 x.2.2.1 x.2.2.2.1).2)
theorem z2F:SdP 111 zP3:=
 sT (cx':=zT7) (zk ⟨z2J,trivial⟩) call111 func111 (lOK (aC z6g aN))
def z9m:=zbr base 23 []
def zXr (x_:At):Wy0 (Bool):=.i (x_.Func==0) (.i (Int.ofNat x_.Items.length==0) (.i (x_.Op==0) (.k (x_.Bd.Kind==0&&(x_.Bd.Int==0&&(x_.Bd.Text.toList==(ByteArray.mk #[]).toList&&true)))) (.k false)) (.k false)) (.k false)
def zq6 (x_:At):=(zXr x_).fin default
def zO9:=zi zEP λx=>((zq6 x.1).1,zYq (zq6 x.1).2)
theorem z2X:SdP 110 zO9:=
 sT (cx':=z9m) (zk trivial) call110 func110 (lOK aN)
abbrev zgL:=Unit×Int×Unit
def zmj (zbz:yC->Bool×Bool) (i:Int) (x_:At):Wy zgL (At×Unit) (Bool⊕At):=.i (decide (i<Int.ofNat x_.Ag.length)) (.i (decide (0<=i)&&decide (i<Int.ofNat x_.Ag.length)) (.i (Int.ofNat (List.length (x_.Ag.getD i.toNat default))==0) (.k (.inl false)) (.i (decide (0<=i)&&decide (i<Int.ofNat x_.Ag.length)) (.bn (zbz (x_.Ag.getD i.toNat default)) λr0=>.i (!r0) (.k (.inl false)) (.h ((),(IntKind.i64.wrap (i+1)),()) (x_,()))) .d)) .d) (.k (.inr x_))
def zy2 (zbz:yC->Bool×Bool) (x:zgL) (y:At×Unit):=zmj zbz x.2.1 y.1
def zyK (zbz:yC->Bool×Bool) (n:Nat) (i:Int) (x_:At):=zC (zy2 zbz) (.inl default) n ((),i,()) (x_,())
def zTE (r:Bool⊕At):LTree ty:=.ite (isL r) (.done .ret [.lit (.bool (getL r))] []) (.done (.exit 0) [.ptr 824 0] [.box (base.enc 67 (getR r)) false])
def zVR:LL ty zgL:=za (ze3 824 0) (za zj zl)
def zlj (zbz:yC->Bool×Bool) (i:Int) (x_:At):Wy zgL (At×Unit) (Bool⊕Unit):=.i (decide (i<Int.ofNat x_.Items.length)) (.i (decide (0<=i)&&decide (i<Int.ofNat x_.Items.length)) (.i (Int.ofNat (x_.Items.getD i.toNat default).Ann.length==0) (.k (.inl false)) (.i (decide (0<=i)&&decide (i<Int.ofNat x_.Items.length)) (.bn (zbz (x_.Items.getD i.toNat default).Ann) λr3=>.i (!r3) (.k (.inl false)) (.i (decide (i>0)) (.i (decide (0<=IntKind.i64.wrap (i - 1))&&decide (IntKind.i64.wrap (i - 1)<=i)&&decide (i<=Int.ofNat x_.Items.length)) (.i (decide (0<=i)&&decide (i<=IntKind.i64.wrap (i+1))&&decide (IntKind.i64.wrap (i+1)<=Int.ofNat x_.Items.length)) (.bn (zuy (List.take (i.toNat - (IntKind.i64.wrap (i - 1)).toNat) (List.drop (IntKind.i64.wrap (i - 1)).toNat x_.Items)) (List.take ((IntKind.i64.wrap (i+1)).toNat - i.toNat) (List.drop i.toNat x_.Items))) λr2=>.i (decide (r2>0)) (.k (.inl false)) (.h ((),(IntKind.i64.wrap (i+1)),()) (x_,()))) .d) .d) (.h ((),(IntKind.i64.wrap (i+1)),()) (x_,())))) .d)) .d) (.k (.inr ()))
def zxn (zbz:yC->Bool×Bool) (x:zgL) (y:At×Unit):=zlj zbz x.2.1 y.1
def zFK (zbz:yC->Bool×Bool) (n:Nat) (i:Int) (x_:At):=zC (zxn zbz) (.inl default) n ((),i,()) (x_,())
def zSI (r:Bool⊕Unit):LTree ty:=.ite (isL r) (.done .ret [.lit (.bool (getL r))] []) (.done (.exit 3) [] [])
def zTl (x:zgL) (y:At×Unit):Nat:=(Int.toNat x.2.1+y.1.Ag.length+y.1.Items.length+1)
def zyT (zbz:yC->Bool×Bool):=zbV base 206 [(16,(ziP zbz)),(30,zuH),(99,zEb),(100,zAO),(106,zDQ),(110,zO9),(111,zP3)] [] [(6,(kpL [1,3])),(21,(kpL [1,4]))] [(6,1,(kpL [1])),(6,0,(kpL [2])),(21,4,[]),(21,0,(kpL [2]))] [(6,spW zVR zXE (zy2 zbz) (.inl default) zTE zTl),(21,spW zVR zXE (zxn zbz) (.inl default) zSI zTl)] []
theorem zTk (zbz:yC->Bool×Bool):zF (zyT zbz) (lp (body f55) 0):=zq (id:=6) (hl:=rfl)
theorem zSA (zbz:yC->Bool×Bool):zF (zyT zbz) (lp (body f55) 1):=zq (id:=21) (hl:=rfl)
def zIs (zbz:yC->Bool×Bool) (x_:At):Wy0 (Bool):=.i (x_.Kind==0) (.i (decide (x_.Row.Table≥1)) (.i (decide (x_.Row.Seq≥1)) (.i (Int.ofNat x_.Ag.length==0) (.bn (zq6 (At.mk x_.Kind x_.Row x_.Ag x_.Func x_.Items x_.Op x_.Bd)) λr6=>.k r6) (.k false)) (.k false)) (.k false)) (.i (!(x_.Row.Table==0&&(x_.Row.Seq==0&&true))) (.k false) (.bn (zyK zbz (Int.toNat 0+x_.Ag.length+x_.Items.length+1) 0 (At.mk x_.Kind x_.Row x_.Ag x_.Func x_.Items x_.Op x_.Bd)) λr17=>.i (isL r17) (.k (getL r17)) (.i ((getR r17).Kind==1) (.i (Int.ofNat (getR r17).Ag.length==2) (.bn (zq6 (At.mk (getR r17).Kind (getR r17).Row (getR r17).Ag (getR r17).Func (getR r17).Items (getR r17).Op (getR r17).Bd)) λr8=>.i (r8) (.i (decide ((0:Int)<=(0:Int))&&decide (0<Int.ofNat (getR r17).Ag.length)) (.i (decide ((0:Int)<=(1:Int))&&decide (1<Int.ofNat (getR r17).Ag.length)) (.bn (zmu ((getR r17).Ag.getD (Int.toNat 0) default) ((getR r17).Ag.getD (Int.toNat 1) default)) λr7=>.k (!r7)) .d) .d) (.k false)) (.k false)) (.i ((getR r17).Kind==2) (.i (Int.ofNat (getR r17).Ag.length==1) (.bn (zq6 (At.mk (getR r17).Kind (getR r17).Row (getR r17).Ag (getR r17).Func (getR r17).Items (getR r17).Op (getR r17).Bd)) λr12=>.i (r12) (.i (decide ((0:Int)<=(0:Int))&&decide (0<Int.ofNat (getR r17).Ag.length)) (.i (Int.ofNat (List.length ((getR r17).Ag.getD (Int.toNat 0) default))==1) (.i (decide ((0:Int)<=(0:Int))&&decide (0<Int.ofNat (getR r17).Ag.length)) (.bn (zjm ((getR r17).Ag.getD (Int.toNat 0) default)) λr10=>.i (!r10) (.i (decide ((0:Int)<=(0:Int))&&decide (0<Int.ofNat (getR r17).Ag.length)) (.bn (zrM ((getR r17).Ag.getD (Int.toNat 0) default)) λr9=>.k (!r9)) .d) (.k false)) .d) (.i (decide ((0:Int)<=(0:Int))&&decide (0<Int.ofNat (getR r17).Ag.length)) (.bn (zrM ((getR r17).Ag.getD (Int.toNat 0) default)) λr11=>.k (!r11)) .d)) .d) (.k false)) (.k false)) (.i ((getR r17).Kind==3) (.i (Int.ofNat (getR r17).Ag.length==1) (.bn (zq6 (At.mk (getR r17).Kind (getR r17).Row (getR r17).Ag (getR r17).Func (getR r17).Items (getR r17).Op (getR r17).Bd)) λr14=>.i (r14) (.i (decide ((0:Int)<=(0:Int))&&decide (0<Int.ofNat (getR r17).Ag.length)) (.bn (zjm ((getR r17).Ag.getD (Int.toNat 0) default)) λr13=>.k (!r13)) .d) (.k false)) (.k false)) (.i ((getR r17).Kind==4) (.i (Int.ofNat (getR r17).Ag.length != 0) (.k false) (.i (Int.ofNat (getR r17).Items.length==0) (.k false) (.i (decide (Int.ofNat (getR r17).Items.length>1024)) (.k false) (.bn (zAu (getR r17).Func (getR r17).Items (getR r17).Op (getR r17).Bd) λr16=>.i (!r16) (.k false) (.bn (zFK zbz (Int.toNat 0+(getR r17).Ag.length+(getR r17).Items.length+1) 0 (At.mk (getR r17).Kind (getR r17).Row (getR r17).Ag (getR r17).Func (getR r17).Items (getR r17).Op (getR r17).Bd)) λr15=>.i (isL r15) (.k (getL r15)) (.k true)))))) (.k false)))))))
def zqd (zbz:yC->Bool×Bool) (x_:At):=(zIs zbz x_).fin default
theorem zQx (zbz:yC->Bool×Bool) (z60:SdP 16 (ziP zbz)):SdP 55 (znX (zqd zbz)):=
 sT (cx':=(zyT zbz)) (zk ⟨z60,zzB,zKe,zHg,zN4,z2X,z2F,trivial⟩) call55 func55 (lOK (aC (zTk zbz) (aC (zSA zbz) aN)))
def zM5:Nat->(yC->Bool×Bool)×(At->Bool×Bool)
 | 0=>(λ_=>(false,default),λ_=>(false,default))
 | n+1=>(zzX ((zM5 n).2),zqd ((zM5 n).1))
def zAg (n:Nat):yC->Bool×Bool:=(zM5 n).1
def zwq (n:Nat):At->Bool×Bool:=(zM5 n).2
theorem z5C (n:Nat):zAg (n+1)=zzX (zwq n):=rfl
theorem zU5 (n:Nat):zwq (n+1)=zqd (zAg n):=rfl
theorem zZ9:∀ n,SdP 16 (ziP (zAg n))/\SdP 55 (znX (zwq n))
 | 0=>⟨zbb call16 (λ_=>rfl),zbb call55 (λ_=>rfl)⟩
 | n+1=>by
  have ih:=zZ9 n;exact ⟨zXV _ (ih.2),zQx _ (ih.1)⟩
def zfa:yC->Bool×Bool:=zAg 1000
def zyN:Ab.Spec ty:=ziP zfa
theorem zEv:SdP 16 zyN:=(zZ9 1000).1
def zbby:=zbr base 3 []
def zbdx:Wy0 (yC):=.k [TO.mk 1 []]
def zKQ:Bool×yC:=(zbdx).fin default
def zTM:=zi zSC λx=>((zKQ ).1,zS6 (zKQ ).2)
theorem z6D:SdP 77 zTM:=
 sT (cx':=zbby) (zk trivial) call77 func77 (lOK aN) (sg:=⟨[.own 28],[]⟩)
def zbcQ:=zbr base 8 [(54,zHR)]
def z3P (a:yC):Wy0 (yC×Int):=.bn (zDj a) λr0=>.i (!r0) (.k ([],6)) (.k (a,0))
def zon (a:yC):=(z3P a).fin default
def zbaO (r:yC×Int):ARes ty:=⟨[.pure (.sl 28 r.1),.pure (.lit (.int .i64 r.2))],[]⟩
def zTg:=zi zZm λx=>((zon x.1).1,zbaO (zon x.1).2)
theorem z65:SdP 101 zTg:=
 sT (cx':=zbcQ) (zk ⟨zPr,trivial⟩) call101 func101 (lOK aN) (sg:=⟨[.pure,.pure],[]⟩)
def z84:=zbr base 30 [(16,zyN),(77,zTM),(99,zEb),(100,zAO),(101,zTg),(102,zHT)]
def zLQ (a:yC):Wy0 (yC×Int):=.bn (zfa a) λr4=>.i (!r4) (.k ([],1)) (.i (Int.ofNat a.length==0) (.k (a,0)) (.bn (zrM a) λr3=>.i (r3) (.k (a,0)) (.i (Int.ofNat a.length==1) (.bn (zjm a) λr1=>.i (r1) (.k (zKQ.2,0)) (.bn (zon (znY (At.mk 2 (RowID.mk 0 0) [a] 0 [] 0 (Value.mk 0 0 (ByteArray.mk #[])))).2) λr0=>.k (r0.1,r0.2))) (.bn (zon (znY (At.mk 2 (RowID.mk 0 0) [a] 0 [] 0 (Value.mk 0 0 (ByteArray.mk #[])))).2) λr2=>.k (r2.1,r2.2)))))
def zvT (a:yC):=(zLQ a).fin default
def zOz:=zi zZm λx=>((zvT x.1).1,zbaO (zvT x.1).2)
theorem z3d:SdP 47 zOz:=
 sT (cx':=z84) (zk ⟨zEv,z6D,zKe,zHg,z65,zOW,trivial⟩) call47 func47 (lOK aN) (sg:=⟨[.pure,.pure],[]⟩)
def zbaQ:=zbr base 9 []
def z1d (a:Int) (b:Int):Wy0 (Int):=.k (if 1152921504606846976<IntKind.i64.wrap (a+b) then 1152921504606846976 else IntKind.i64.wrap (a+b))
def zzm (a:Int) (b:Int):=(z1d a b).fin default
def zRa:=zi zYl λx=>((zzm x.1 x.2.1).1,zSM (zzm x.1 x.2.1).2)
theorem z4l:SdP 112 zRa:=
 sT (cx':=zbaQ) (zk trivial) call112 func112 (lOK aN)
abbrev zGO:=yC×Unit×Int×Unit
abbrev z0P:=yC×Int×Term
def zCh (a:yC) (i:Int) (t:Term):Wy zGO (Term×Unit) z0P:=.i (decide (i<Int.ofNat a.length)) (.i (decide (0<=i)&&decide (i<Int.ofNat a.length)) (.bn (zmq (a.getD i.toNat default).Fs t.Fs) λr0=>.i (decide (r0<0)) (.h (a,(),(IntKind.i64.wrap (i+1)),()) (t,())) (.k (a,i,t))) .d) (.k (a,i,t))
def zPd (x:zGO) (y:Term×Unit):=zCh x.1 x.2.2.1 y.1
def zZ5 (n:Nat) (a:yC) (i:Int) (t:Term):=zC (zPd) default n (a,(),i,()) (t,())
def zbaz (r:z0P):LTree ty:=.done (.exit 0) [.sl 28 r.1,.ptr 288 0,.lit (.int .i64 r.2.1)] [.box (base.enc 28 r.2.2) false]
def zbbO:LL ty zGO:=za (lSl 28) (za (ze3 288 0) (za zj zl))
def zbal (x:zGO) (y:Term×Unit):Nat:=(x.1.length+Int.toNat x.2.2.1+y.1.Fs.length+1)
def z0y:=zbV base 72 [(34,zq2),(112,zRa)] [] [(2,(kpL [0,3,5]))] [(2,1,(kpL [0,3,5]))] [(2,spW zbbO zTu (zPd) default zbaz zbal)] []
theorem zbaq:zF z0y (lp (body f58) 0):=zq (id:=2) (hl:=rfl)
def z3G (a:yC) (t:Term):Wy0 (yC):=.bn (zZ5 (a.length+Int.toNat 0+t.Fs.length+1) a 0 t) λr3=>.i (decide ((0:Int)<=(0:Int))&&decide (0<=r3.2.1)&&decide (r3.2.1<=Int.ofNat r3.1.length)) (.i (decide ((0+(List.take (r3.2.1.toNat - Int.toNat 0) (List.drop (Int.toNat 0) r3.1)).length)*32<=zN)) (.i (decide (r3.2.1<Int.ofNat r3.1.length)) (.i (decide (0<=r3.2.1)&&decide (r3.2.1<Int.ofNat r3.1.length)) (.bn (zmq (r3.1.getD r3.2.1.toNat default).Fs r3.2.2.Fs) λr2=>.i (r2==0) (.i (decide (0<=r3.2.1)&&decide (r3.2.1<Int.ofNat r3.1.length)) (.i (decide ((([]++List.take (r3.2.1.toNat - Int.toNat 0) (List.drop (Int.toNat 0) r3.1)).length+[TO.mk (zzm (r3.1.getD r3.2.1.toNat default).Cf r3.2.2.Cf).2 r3.2.2.Fs].length)*32<=zN)) (.i (decide (0<=IntKind.i64.wrap (r3.2.1+1))&&decide (IntKind.i64.wrap (r3.2.1+1)<=Int.ofNat r3.1.length)&&decide (Int.ofNat r3.1.length<=Int.ofNat r3.1.length)) (.i (decide ((([]++List.take (r3.2.1.toNat - Int.toNat 0) (List.drop (Int.toNat 0) r3.1)++[TO.mk (zzm (r3.1.getD r3.2.1.toNat default).Cf r3.2.2.Cf).2 r3.2.2.Fs]).length+(List.take ((Int.ofNat r3.1.length).toNat - (IntKind.i64.wrap (r3.2.1+1)).toNat) (List.drop (IntKind.i64.wrap (r3.2.1+1)).toNat r3.1)).length)*32<=zN)) (.k ([]++List.take (r3.2.1.toNat - Int.toNat 0) (List.drop (Int.toNat 0) r3.1)++[TO.mk (zzm (r3.1.getD r3.2.1.toNat default).Cf r3.2.2.Cf).2 r3.2.2.Fs]++List.take ((Int.ofNat r3.1.length).toNat - (IntKind.i64.wrap (r3.2.1+1)).toNat) (List.drop (IntKind.i64.wrap (r3.2.1+1)).toNat r3.1))) .d) .d) .d) .d) (.i (decide ((([]++List.take (r3.2.1.toNat - Int.toNat 0) (List.drop (Int.toNat 0) r3.1)).length+[r3.2.2].length)*32<=zN)) (.i (decide (0<=r3.2.1)&&decide (r3.2.1<=Int.ofNat r3.1.length)&&decide (Int.ofNat r3.1.length<=Int.ofNat r3.1.length)) (.i (decide ((([]++List.take (r3.2.1.toNat - Int.toNat 0) (List.drop (Int.toNat 0) r3.1)++[r3.2.2]).length+(List.take ((Int.ofNat r3.1.length).toNat - r3.2.1.toNat) (List.drop r3.2.1.toNat r3.1)).length)*32<=zN)) (.k ([]++List.take (r3.2.1.toNat - Int.toNat 0) (List.drop (Int.toNat 0) r3.1)++[r3.2.2]++List.take ((Int.ofNat r3.1.length).toNat - r3.2.1.toNat) (List.drop r3.2.1.toNat r3.1))) .d) .d) .d)) .d) (.i (decide ((([]++List.take (r3.2.1.toNat - Int.toNat 0) (List.drop (Int.toNat 0) r3.1)).length+[r3.2.2].length)*32<=zN)) (.i (decide (0<=r3.2.1)&&decide (r3.2.1<=Int.ofNat r3.1.length)&&decide (Int.ofNat r3.1.length<=Int.ofNat r3.1.length)) (.i (decide ((([]++List.take (r3.2.1.toNat - Int.toNat 0) (List.drop (Int.toNat 0) r3.1)++[r3.2.2]).length+(List.take ((Int.ofNat r3.1.length).toNat - r3.2.1.toNat) (List.drop r3.2.1.toNat r3.1)).length)*32<=zN)) (.k ([]++List.take (r3.2.1.toNat - Int.toNat 0) (List.drop (Int.toNat 0) r3.1)++[r3.2.2]++List.take ((Int.ofNat r3.1.length).toNat - r3.2.1.toNat) (List.drop r3.2.1.toNat r3.1))) .d) .d) .d)) .d) .d
def zFW (a:yC) (t:Term):=(z3G a t).fin default
def zbdJ:AL base (yC×Term×Unit):=ze (zf (vSl 28)) (ze (zf (zcK 28)) zu)
def zJM:=zi zbdJ λx=>((zFW x.1 x.2.1).1,zS6 (zFW x.1 x.2.1).2)
theorem zQ0:SdP 58 zJM:=
 sT (cx':=z0y) (zk ⟨zzJ,z4l,trivial⟩) call58 func58 (lOK (aC zbaq aN)) (sg:=⟨[.own 28],[]⟩)
abbrev zBy:=yD×Unit×Int×Unit
abbrev zQ6:=yD×Int×Fc
def zuZ (l:yD) (i:Int) (f:Fc):Wy zBy (Fc×Unit) zQ6:=.i (decide (i<Int.ofNat l.length)) (.i (decide (0<=i)&&decide (i<Int.ofNat l.length)) (.bn (zjV (At.mk (l.getD i.toNat default).At.Kind (l.getD i.toNat default).At.Row (l.getD i.toNat default).At.Ag (l.getD i.toNat default).At.Func (l.getD i.toNat default).At.Items (l.getD i.toNat default).At.Op (l.getD i.toNat default).At.Bd) (At.mk f.At.Kind f.At.Row f.At.Ag f.At.Func f.At.Items f.At.Op f.At.Bd)) λr0=>.i (decide (r0<0)) (.h (l,(),(IntKind.i64.wrap (i+1)),()) (f,())) (.k (l,i,f))) .d) (.k (l,i,f))
def zHv (x:zBy) (y:Fc×Unit):=zuZ x.1 x.2.2.1 y.1
def zRo (n:Nat) (l:yD) (i:Int) (f:Fc):=zC (zHv) default n (l,(),i,()) (f,())
def z5E (r:zQ6):LTree ty:=.done (.exit 0) [.sl 69 r.1,.ptr 296 0,.lit (.int .i64 r.2.1)] [.box (base.enc 69 r.2.2) false]
def z7E:LL ty zBy:=za (lSl 69) (za (ze3 296 0) (za zj zl))
def z5B (x:zBy) (y:Fc×Unit):Nat:=(x.1.length+Int.toNat x.2.2.1+y.1.At.Ag.length+y.1.At.Items.length+1)
def zRv:=zbV base 74 [(53,zod)] [] [(2,(kpL [0,3,5]))] [(2,1,(kpL [0,3,5]))] [(2,spW z7E zUD (zHv) default z5E z5B)] []
theorem z4G:zF zRv (lp (body f57) 0):=zq (id:=2) (hl:=rfl)
def zUx (l:yD) (f:Fc):Wy0 (yD):=.bn (zRo (l.length+Int.toNat 0+f.At.Ag.length+f.At.Items.length+1) l 0 (FO.mk (At.mk f.At.Kind f.At.Row f.At.Ag f.At.Func f.At.Items f.At.Op f.At.Bd) f.Exp)) λr3=>.i (decide ((0:Int)<=(0:Int))&&decide (0<=r3.2.1)&&decide (r3.2.1<=Int.ofNat r3.1.length)) (.i (decide ((0+(List.take (r3.2.1.toNat - Int.toNat 0) (List.drop (Int.toNat 0) r3.1)).length)*128<=zN)) (.i (decide (r3.2.1<Int.ofNat r3.1.length)) (.i (decide (0<=r3.2.1)&&decide (r3.2.1<Int.ofNat r3.1.length)) (.bn (zjV (At.mk (r3.1.getD r3.2.1.toNat default).At.Kind (r3.1.getD r3.2.1.toNat default).At.Row (r3.1.getD r3.2.1.toNat default).At.Ag (r3.1.getD r3.2.1.toNat default).At.Func (r3.1.getD r3.2.1.toNat default).At.Items (r3.1.getD r3.2.1.toNat default).At.Op (r3.1.getD r3.2.1.toNat default).At.Bd) (At.mk r3.2.2.At.Kind r3.2.2.At.Row r3.2.2.At.Ag r3.2.2.At.Func r3.2.2.At.Items r3.2.2.At.Op r3.2.2.At.Bd)) λr2=>.i (r2==0) (.i (decide (r3.2.2.At.Kind<3)) (.i (decide (0<=r3.2.1)&&decide (r3.2.1<Int.ofNat r3.1.length)) (.i (decide ((([]++List.take (r3.2.1.toNat - Int.toNat 0) (List.drop (Int.toNat 0) r3.1)).length+[FO.mk (At.mk r3.2.2.At.Kind r3.2.2.At.Row r3.2.2.At.Ag r3.2.2.At.Func r3.2.2.At.Items r3.2.2.At.Op r3.2.2.At.Bd) (IntKind.i64.wrap ((r3.1.getD r3.2.1.toNat default).Exp+r3.2.2.Exp))].length)*128<=zN)) (.i (decide (0<=IntKind.i64.wrap (r3.2.1+1))&&decide (IntKind.i64.wrap (r3.2.1+1)<=Int.ofNat r3.1.length)&&decide (Int.ofNat r3.1.length<=Int.ofNat r3.1.length)) (.i (decide ((([]++List.take (r3.2.1.toNat - Int.toNat 0) (List.drop (Int.toNat 0) r3.1)++[FO.mk (At.mk r3.2.2.At.Kind r3.2.2.At.Row r3.2.2.At.Ag r3.2.2.At.Func r3.2.2.At.Items r3.2.2.At.Op r3.2.2.At.Bd) (IntKind.i64.wrap ((r3.1.getD r3.2.1.toNat default).Exp+r3.2.2.Exp))]).length+(List.take ((Int.ofNat r3.1.length).toNat - (IntKind.i64.wrap (r3.2.1+1)).toNat) (List.drop (IntKind.i64.wrap (r3.2.1+1)).toNat r3.1)).length)*128<=zN)) (.k ([]++List.take (r3.2.1.toNat - Int.toNat 0) (List.drop (Int.toNat 0) r3.1)++[FO.mk (At.mk r3.2.2.At.Kind r3.2.2.At.Row r3.2.2.At.Ag r3.2.2.At.Func r3.2.2.At.Items r3.2.2.At.Op r3.2.2.At.Bd) (IntKind.i64.wrap ((r3.1.getD r3.2.1.toNat default).Exp+r3.2.2.Exp))]++List.take ((Int.ofNat r3.1.length).toNat - (IntKind.i64.wrap (r3.2.1+1)).toNat) (List.drop (IntKind.i64.wrap (r3.2.1+1)).toNat r3.1))) .d) .d) .d) .d) (.i (decide ((([]++List.take (r3.2.1.toNat - Int.toNat 0) (List.drop (Int.toNat 0) r3.1)).length+[FO.mk (At.mk r3.2.2.At.Kind r3.2.2.At.Row r3.2.2.At.Ag r3.2.2.At.Func r3.2.2.At.Items r3.2.2.At.Op r3.2.2.At.Bd) r3.2.2.Exp].length)*128<=zN)) (.i (decide (0<=IntKind.i64.wrap (r3.2.1+1))&&decide (IntKind.i64.wrap (r3.2.1+1)<=Int.ofNat r3.1.length)&&decide (Int.ofNat r3.1.length<=Int.ofNat r3.1.length)) (.i (decide ((([]++List.take (r3.2.1.toNat - Int.toNat 0) (List.drop (Int.toNat 0) r3.1)++[FO.mk (At.mk r3.2.2.At.Kind r3.2.2.At.Row r3.2.2.At.Ag r3.2.2.At.Func r3.2.2.At.Items r3.2.2.At.Op r3.2.2.At.Bd) r3.2.2.Exp]).length+(List.take ((Int.ofNat r3.1.length).toNat - (IntKind.i64.wrap (r3.2.1+1)).toNat) (List.drop (IntKind.i64.wrap (r3.2.1+1)).toNat r3.1)).length)*128<=zN)) (.k ([]++List.take (r3.2.1.toNat - Int.toNat 0) (List.drop (Int.toNat 0) r3.1)++[FO.mk (At.mk r3.2.2.At.Kind r3.2.2.At.Row r3.2.2.At.Ag r3.2.2.At.Func r3.2.2.At.Items r3.2.2.At.Op r3.2.2.At.Bd) r3.2.2.Exp]++List.take ((Int.ofNat r3.1.length).toNat - (IntKind.i64.wrap (r3.2.1+1)).toNat) (List.drop (IntKind.i64.wrap (r3.2.1+1)).toNat r3.1))) .d) .d) .d)) (.i (decide ((([]++List.take (r3.2.1.toNat - Int.toNat 0) (List.drop (Int.toNat 0) r3.1)).length+[FO.mk (At.mk r3.2.2.At.Kind r3.2.2.At.Row r3.2.2.At.Ag r3.2.2.At.Func r3.2.2.At.Items r3.2.2.At.Op r3.2.2.At.Bd) r3.2.2.Exp].length)*128<=zN)) (.i (decide (0<=r3.2.1)&&decide (r3.2.1<=Int.ofNat r3.1.length)&&decide (Int.ofNat r3.1.length<=Int.ofNat r3.1.length)) (.i (decide ((([]++List.take (r3.2.1.toNat - Int.toNat 0) (List.drop (Int.toNat 0) r3.1)++[FO.mk (At.mk r3.2.2.At.Kind r3.2.2.At.Row r3.2.2.At.Ag r3.2.2.At.Func r3.2.2.At.Items r3.2.2.At.Op r3.2.2.At.Bd) r3.2.2.Exp]).length+(List.take ((Int.ofNat r3.1.length).toNat - r3.2.1.toNat) (List.drop r3.2.1.toNat r3.1)).length)*128<=zN)) (.k ([]++List.take (r3.2.1.toNat - Int.toNat 0) (List.drop (Int.toNat 0) r3.1)++[FO.mk (At.mk r3.2.2.At.Kind r3.2.2.At.Row r3.2.2.At.Ag r3.2.2.At.Func r3.2.2.At.Items r3.2.2.At.Op r3.2.2.At.Bd) r3.2.2.Exp]++List.take ((Int.ofNat r3.1.length).toNat - r3.2.1.toNat) (List.drop r3.2.1.toNat r3.1))) .d) .d) .d)) .d) (.i (decide ((([]++List.take (r3.2.1.toNat - Int.toNat 0) (List.drop (Int.toNat 0) r3.1)).length+[FO.mk (At.mk r3.2.2.At.Kind r3.2.2.At.Row r3.2.2.At.Ag r3.2.2.At.Func r3.2.2.At.Items r3.2.2.At.Op r3.2.2.At.Bd) r3.2.2.Exp].length)*128<=zN)) (.i (decide (0<=r3.2.1)&&decide (r3.2.1<=Int.ofNat r3.1.length)&&decide (Int.ofNat r3.1.length<=Int.ofNat r3.1.length)) (.i (decide ((([]++List.take (r3.2.1.toNat - Int.toNat 0) (List.drop (Int.toNat 0) r3.1)++[FO.mk (At.mk r3.2.2.At.Kind r3.2.2.At.Row r3.2.2.At.Ag r3.2.2.At.Func r3.2.2.At.Items r3.2.2.At.Op r3.2.2.At.Bd) r3.2.2.Exp]).length+(List.take ((Int.ofNat r3.1.length).toNat - r3.2.1.toNat) (List.drop r3.2.1.toNat r3.1)).length)*128<=zN)) (.k ([]++List.take (r3.2.1.toNat - Int.toNat 0) (List.drop (Int.toNat 0) r3.1)++[FO.mk (At.mk r3.2.2.At.Kind r3.2.2.At.Row r3.2.2.At.Ag r3.2.2.At.Func r3.2.2.At.Items r3.2.2.At.Op r3.2.2.At.Bd) r3.2.2.Exp]++List.take ((Int.ofNat r3.1.length).toNat - r3.2.1.toNat) (List.drop r3.2.1.toNat r3.1))) .d) .d) .d)) .d) .d
def zCo (l:yD) (f:Fc):=(zUx l f).fin default
def z5s (r:yD):ARes ty:=⟨[.pure (.sl 69 r)],[]⟩
def z8b:AL base (yD×Fc×Unit):=ze (zf (vSl 69)) (ze (zf (zcK 69)) zu)
def zML:=zi z8b λx=>((zCo x.1 x.2.1).1,z5s (zCo x.1 x.2.1).2)
theorem zYJ:SdP 57 zML:=
 sT (cx':=zRv) (zk ⟨ztV,trivial⟩) call57 func57 (lOK (aC z4G aN))
def z8n:=zbr base 12 []
def zXe (a:Int) (b:Int):Wy0 (Int):=.i (!decide (b=0)) (.i (decide (a>IntKind.i64.wrap (Int.tdiv 1152921504606846976 b))) (.k 1152921504606846976) (.k (IntKind.i64.wrap (a*b)))) .d
def zEZ (a:Int) (b:Int):=(zXe a b).fin default
def zPb:=zi zYl λx=>((zEZ x.1 x.2.1).1,zSM (zEZ x.1 x.2.1).2)
theorem z3q:SdP 56 zPb:=
 sT (cx':=z8n) (zk trivial) call56 func56 (lOK aN)
abbrev zyI:=yC×yC×Unit×Int×Int×Unit×Int×Unit
abbrev zzw:=yC×(Int×yD×Unit)×Unit
abbrev zPD:=yC×yC×Int×Int×yC×Int×yD
abbrev zyS:=yC×yC×Unit×Int×Int×Unit
abbrev ziK:=yC×Unit
abbrev zPq:=yC×yC×Int×yC
abbrev zy1:=yC×yC×Unit×Int×Unit
def zqf (a:yC) (b:yC) (i:Int) (k:Int) (j:Int) (out_:yC) (t_0:Int) (t_1:yD):Wy zyI zzw zPD:=.i (decide (0<=k)&&decide (k<Int.ofNat b.length)) (.i (decide (j<Int.ofNat (b.getD k.toNat default).Fs.length)) (.i (decide (0<=k)&&decide (k<Int.ofNat b.length)) (.i (decide (0<=j)&&decide (j<Int.ofNat (b.getD k.toNat default).Fs.length)) (.bn (zCo t_1 (FO.mk (At.mk ((b.getD k.toNat default).Fs.getD j.toNat default).At.Kind ((b.getD k.toNat default).Fs.getD j.toNat default).At.Row ((b.getD k.toNat default).Fs.getD j.toNat default).At.Ag ((b.getD k.toNat default).Fs.getD j.toNat default).At.Func ((b.getD k.toNat default).Fs.getD j.toNat default).At.Items ((b.getD k.toNat default).Fs.getD j.toNat default).At.Op ((b.getD k.toNat default).Fs.getD j.toNat default).At.Bd) ((b.getD k.toNat default).Fs.getD j.toNat default).Exp)) λr0=>.h (a,b,(),i,k,(),(IntKind.i64.wrap (j+1)),()) (out_,(t_0,(r0),()),())) .d) .d) (.k (a,b,i,k,out_,t_0,t_1))) .d
def zEt (x:zyI) (y:zzw):=zqf x.1 x.2.1 x.2.2.2.1 x.2.2.2.2.1 x.2.2.2.2.2.2.1 y.1 y.2.1.1 y.2.1.2.1
def zMB (n:Nat) (a:yC) (b:yC) (i:Int) (k:Int) (j:Int) (out_:yC) (t_0:Int) (t_1:yD):=zC (zEt) default n (a,b,(),i,k,(),j,()) (out_,(t_0,t_1,()),())
def z1h (r:zPD):LTree ty:=.done (.exit 4) [.sl 28 r.1,.sl 28 r.2.1,.own 264,.lit (.int .i64 r.2.2.1),.lit (.int .i64 r.2.2.2.1),.ptr 265 0] [.arr 28 r.2.2.2.2.1 false,.box ([.lit (.int .i64 r.2.2.2.2.2.1),.sl 69 r.2.2.2.2.2.2]) false]
def z3e:LL ty zyI:=za (lSl 28) (za (lSl 28) (za (zds 264) (za zj (za zj (za (ze3 265 0) (za zj zl))))))
def z26:BL ty zzw:=zdA 28 false (zhS (za (zR .i64) (za (lSl 69) zl)) false (zbd))
def zsk (a:yC) (b:yC) (i:Int) (k:Int) (out_:yC):Wy zyS ziK zPq:=.i (decide (k<Int.ofNat b.length)) (.i (decide (0<=i)&&decide (i<Int.ofNat a.length)) (.i (decide (0<=k)&&decide (k<Int.ofNat b.length)) (.bn (zEZ (a.getD i.toNat default).Cf (b.getD k.toNat default).Cf) λr4=>.i (decide (0<=i)&&decide (i<Int.ofNat a.length)) (.bn (zMB ((a.length+b.length+i.toNat +k.toNat +Int.toNat 0+out_.length+r4.toNat +(a.getD i.toNat default).Fs.length+1)+zb6 a+zb6 b+zb6 out_+zLq (a.getD i.toNat default).Fs) a b i k 0 out_ r4 (a.getD i.toNat default).Fs) λr3=>.bn (zFW r3.2.2.2.2.1 (TO.mk r3.2.2.2.2.2.1 r3.2.2.2.2.2.2)) λr2=>.h ((r3.1),(r3.2.1),(),(r3.2.2.1),(IntKind.i64.wrap (r3.2.2.2.1+1)),()) ((r2),())) .d) .d) .d) (.k (a,b,i,out_))
def zFx (x:zyS) (y:ziK):=zsk x.1 x.2.1 x.2.2.2.1 x.2.2.2.2.1 y.1
def zOf (n:Nat) (a:yC) (b:yC) (i:Int) (k:Int) (out_:yC):=zC (zFx) default n (a,b,(),i,k,()) (out_,())
def z3l (r:zPq):LTree ty:=.done (.exit 2) [.sl 28 r.1,.sl 28 r.2.1,.own 264,.lit (.int .i64 r.2.2.1)] [.arr 28 r.2.2.2 false]
def z4w:LL ty zyS:=za (lSl 28) (za (lSl 28) (za (zds 264) (za zj (za zj zl))))
def z5n:BL ty ziK:=zdA 28 false (zbd)
def zsa (a:yC) (b:yC) (i:Int) (out_:yC):Wy zy1 ziK (yC):=.i (decide (i<Int.ofNat a.length)) (.bn (zOf ((a.length+b.length+i.toNat +Int.toNat 0+out_.length+1)+zb6 a+zb6 b+zb6 out_) a b i 0 out_) λr8=>.h ((r8.1),(r8.2.1),(),(IntKind.i64.wrap (r8.2.2.1+1)),()) ((r8.2.2.2),())) (.k out_)
def zFu (x:zy1) (y:ziK):=zsa x.1 x.2.1 x.2.2.2.1 y.1
def zPP (n:Nat) (a:yC) (b:yC) (i:Int) (out_:yC):=zC (zFu) default n (a,b,(),i,()) (out_,())
def z2k (r:yC):LTree ty:=.done (.exit 0) [.own 264] [.arr 28 r false]
def z4U:LL ty zy1:=za (lSl 28) (za (lSl 28) (za (zds 264) (za zj zl)))
def zZe (x:zyI) (y:zzw):Nat:=((x.1.length+x.2.1.length+Int.toNat x.2.2.2.1+Int.toNat x.2.2.2.2.1+Int.toNat x.2.2.2.2.2.2.1+y.1.length+Int.toNat y.2.1.1+y.2.1.2.1.length+1)+zb6 x.1+zb6 x.2.1+zb6 y.1+zLq y.2.1.2.1)
def z3o (x:zyS) (y:ziK):Nat:=((x.1.length+x.2.1.length+Int.toNat x.2.2.2.1+Int.toNat x.2.2.2.2.1+y.1.length+1)+zb6 x.1+zb6 x.2.1+zb6 y.1)
def z2Z (x:zy1) (y:ziK):Nat:=((x.1.length+x.2.1.length+Int.toNat x.2.2.2.1+y.1.length+1)+zb6 x.1+zb6 x.2.1+zb6 y.1)
def zzb:=zbV base 66 [(56,zPb),(57,zML),(58,zJM)] [] [(3,(kpL [0,1,5,6])),(6,(kpL [0,1,5,6,7])),(10,(kpL [0,1,5,6,7,8,9]))] [(3,1,(kpL [5])),(6,3,(kpL [0,1,5,6])),(10,5,(kpL [0,1,5,6,7,8]))] [(10,spW z3e z26 (zEt) default z1h zZe),(6,spW z4w z5n (zFx) default z3l z3o),(3,spW z4U z5n (zFu) default z2k z2Z)] []
theorem z0q:zF zzb (lp (body f17) 2):=zq (id:=10) (hl:=rfl)
theorem z3r:zF zzb (lp (body f17) 1):=zq (id:=6) (hl:=rfl)
theorem z2p:zF zzb (lp (body f17) 0):=zq (id:=3) (hl:=rfl)
def zRm (a:yC) (b:yC):Wy0 (yC):=.bn (zPP ((a.length+b.length+Int.toNat 0+0+1)+zb6 a+zb6 b+zb6 []) a b 0 []) λr10=>.k r10
def zpF (a:yC) (b:yC):=(zRm a b).fin default
def zKw:=zi zWy λx=>((zpF x.1 x.2.1).1,zS6 (zpF x.1 x.2.1).2)
theorem zX1:SdP 17 zKw:=
 sT (cx':=zzb) (zk ⟨z3q,zYJ,zQ0,trivial⟩) call17 func17 (lOK (aC z2p (aC z3r (aC z0q aN)))) (sg:=⟨[.own 28],[]⟩)
abbrev zHl:=yC×yC×Int×Unit
def zCG (a:yC) (b:yC) (i:Int):Wy zHl Unit (yC):=.i (decide (i<Int.ofNat b.length)) (.i (decide (0<=i)&&decide (i<Int.ofNat b.length)) (.bn (zFW a (b.getD i.toNat default)) λr0=>.h ((r0),b,(IntKind.i64.wrap (i+1)),()) ()) .d) (.k a)
def zPU (x:zHl) (y:Unit):=zCG x.1 x.2.1 x.2.2.1
def zZg (n:Nat) (a:yC) (b:yC) (i:Int):=zC (zPU) default n (a,b,i,()) ()
def zbaI (r:yC):LTree ty:=.done (.exit 0) [.sl 28 r] []
def zbbC:LL ty zHl:=za (lSl 28) (za (lSl 28) (za zj zl))
def zba5 (x:zHl) (y:Unit):Nat:=(x.1.length+x.2.1.length+Int.toNat x.2.2.1+1)
def z1f:=zbV base 19 [(58,zJM)] [] [(2,[(0,.sl 28),(1,.keep),(5,.keep)])] [(2,1,(kpL [0]))] [(2,spW zbbC zba6 (zPU) default zbaI zba5)] []
theorem zbaJ:zF z1f (lp (body f45) 0):=zq (id:=2) (hl:=rfl)
def z3y (a:yC) (b:yC):Wy0 (yC):=.bn (zZg (a.length+b.length+Int.toNat 0+1) a b 0) λr2=>.k r2
def zGl (a:yC) (b:yC):=(z3y a b).fin default
def zbaU (r:yC):ARes ty:=⟨[.pure (.sl 28 r)],[]⟩
def zTR:=zi zWy λx=>((zGl x.1 x.2.1).1,zbaU (zGl x.1 x.2.1).2)
theorem z6z:SdP 45 zTR:=
 sT (cx':=z1f) (zk ⟨zQ0,trivial⟩) call45 func45 (lOK (aC zbaJ aN))
abbrev zqS:=yF×yF×Int×Unit
abbrev zGY:=Int⊕(yF×yF)
def zVt (a:yF) (b:yF) (i:Int):Wy zqS Unit zGY:=.i (decide (i<Int.ofNat a.length)) (.i (decide (i<Int.ofNat b.length)) (.i (decide (0<=i)&&decide (i<Int.ofNat a.length)) (.i (decide (0<=i)&&decide (i<Int.ofNat b.length)) (.bn (znN (a.getD i.toNat default) (b.getD i.toNat default)) λr0=>.i (r0 != 0) (.k (.inl (r0))) (.h (a,b,(IntKind.i64.wrap (i+1)),()) ())) .d) .d) (.k (.inr (a,b)))) (.k (.inr (a,b)))
def zHz (x:zqS) (y:Unit):=zVt x.1 x.2.1 x.2.2.1
def zV1 (n:Nat) (a:yF) (b:yF) (i:Int):=zC (zHz) (.inl default) n (a,b,i,()) ()
def zTS (r:zGY):LTree ty:=.ite (isL r) (.done .ret [.lit (.int .i64 (getL r))] []) (.done (.exit 0) [.sl 49 (getR r).1,.sl 49 (getR r).2] [])
def zWw:LL ty zqS:=za (lSl 49) (za (lSl 49) (za zj zl))
def zUR (x:zqS) (y:Unit):Nat:=(x.1.length+x.2.1.length+Int.toNat x.2.2.1+1000)
def zGM:=zbV base 41 [(105,zxe)] [] [(2,(kpL [0,1,5]))] [(2,1,(kpL [0,1])),(2,0,(kpL [4]))] [(2,spW zWw zba6 (zHz) (.inl default) zTS zUR)] []
theorem zTP:zF zGM (lp (body f76) 0):=zq (id:=2) (hl:=rfl)
def zXJ (a:yF) (b:yF):Wy0 (Int):=.bn (zV1 (a.length+b.length+Int.toNat 0+1000) a b 0) λr2=>.i (isL r2) (.k (getL r2)) (.i (Int.ofNat (getR r2).1.length==Int.ofNat (getR r2).2.length) (.k 0) (.i (decide (Int.ofNat (getR r2).1.length<Int.ofNat (getR r2).2.length)) (.k (-1:Int)) (.k 1)))
def zEy (a:yF) (b:yF):=(zXJ a b).fin default
def zEV:=zi zDw λx=>((zEy x.1 x.2.1).1,zSM (zEy x.1 x.2.1).2)
theorem zQO:SdP 76 zEV:=
 sT (cx':=zGM) (zk ⟨zEM,trivial⟩) call76 func76 (lOK (aC zTP aN))
abbrev zE5:=yB×yB×Int×Unit
def zba8 (a:yB) (b:yB) (i:Int):Wy zE5 Unit (Bool⊕Unit):=.i (decide (i<Int.ofNat a.length)) (.i (decide (0<=i)&&decide (i<Int.ofNat a.length)) (.i (decide (0<=i)&&decide (i<Int.ofNat b.length)) (.bn (zEy (a.getD i.toNat default) (b.getD i.toNat default)) λr0=>.i (r0 != 0) (.k (.inl false)) (.h (a,b,(IntKind.i64.wrap (i+1)),()) ())) .d) .d) (.k (.inr ()))
def zWX (x:zE5) (y:Unit):=zba8 x.1 x.2.1 x.2.2.1
def zbaT (n:Nat) (a:yB) (b:yB) (i:Int):=zC (zWX) (.inl default) n (a,b,i,()) ()
def zbak:LL ty zE5:=za (lSl 43) (za (lSl 43) (za zj zl))
def z8e (x:zE5) (y:Unit):Nat:=(x.1.length+x.2.1.length+Int.toNat x.2.2.1+1000)
def zWY:=zbV base 27 [(76,zEV)] [] [(4,(kpL [0,1,5]))] [(4,1,[]),(4,0,(kpL [4]))] [(4,spW zbak zba6 (zWX) (.inl default) zSV z8e)] []
theorem z73:zF zWY (lp (body f26) 0):=zq (id:=4) (hl:=rfl)
def zbcC (a:yB) (b:yB):Wy0 (Bool):=.i (Int.ofNat a.length != Int.ofNat b.length) (.k false) (.bn (zbaT (a.length+b.length+Int.toNat 0+1000) a b 0) λr2=>.i (isL r2) (.k (getL r2)) (.k true))
def zWB (a:yB) (b:yB):=(zbcC a b).fin default
def zRk:=zi z5i λx=>((zWB x.1 x.2.1).1,zYq (zWB x.1 x.2.1).2)
theorem z5f:SdP 26 zRk:=
 sT (cx':=zWY) (zk ⟨zQO,trivial⟩) call26 func26 (lOK (aC z73 aN))
abbrev zJw:=yC×yC×yC×Unit×Int×Unit×Unit×Unit×Unit
abbrev zJk:=yB×(Int×Int×Unit)×(Int×Int×Unit)×(Int×Int×Unit)×Unit
def z8M (x_:yC) (y_:yC) (a:yC) (e:Int) (l:yB) (one_0:Int) (one_1:Int) (two_0:Int) (two_1:Int) (three_0:Int) (three_1:Int):Wy zJw zJk (Bool):=.bn (zmw a) λr7=>.bn (zpF y_ y_) λr6=>.bn (zGl x_ r6) λr5=>.bn (zmu r7 r5) λr4=>.i (r4) (.i (e==0) (.bn (zWB l [[RowID.mk one_0 one_1,RowID.mk two_0 two_1],[RowID.mk one_0 one_1,RowID.mk three_0 three_1]]) λr3=>.i (r3) (.bn (zEj a a) λr2=>.i (r2) (.i (decide ((0:Int)<=(0:Int))&&decide (0<Int.ofNat x_.length)) (.bn (zpF x_ y_) λr1=>.i (decide ((0:Int)<=(0:Int))&&decide (0<Int.ofNat r1.length)) (.bn (zgO (x_.getD (Int.toNat 0) default) (r1.getD (Int.toNat 0) default)) λr0=>.k r0) .d) .d) (.k false)) (.k false)) (.k false)) (.k false)
def z8X (x:zJw) (y:zJk):=z8M x.1 x.2.1 x.2.2.1 x.2.2.2.2.1 y.1 y.2.1.1 y.2.1.2.1 y.2.2.1.1 y.2.2.1.2.1 y.2.2.2.1.1 y.2.2.2.1.2.1
def z7b (r:Bool):LTree ty:=.done .ret [.lit (.bool r)] []
def z8j:LL ty zJw:=za (lSl 28) (za (lSl 28) (za (lSl 28) (za (zds 328) (za zj (za (ze3 329 0) (za (ze3 330 0) (za (ze3 331 0) zl)))))))
def z8r:BL ty zJk:=zdA 43 false (zhS (za (zR .i64) (za (zR .i64) zl)) false (zhS (za (zR .i64) (za (zR .i64) zl)) false (zhS (za (zR .i64) (za (zR .i64) zl)) false (zbd))))
def zUe:=zbbf zb1 82 [(14,zm7),(17,zKw),(18,zEH),(22,zvZ),(24,zBt),(26,zRk),(30,zuH),(44,zIC),(45,zTR),(46,zO3),(47,zOz)] [] [(6,[(1,.sl 28),(2,.sl 28),(4,.sl 28),(7,.keep),(8,.keep),(9,.keep),(10,.keep),(11,.keep)])] [(6,0,(kpL [0]))] [] [] [(6,spW z8j z8r (z8X) default z7b λx y=>(1))]
theorem z6K:zUr zUe (jn (body f12) 6):=z5S (id:=6) (hl:=rfl)
def zbao:Wy0 (Bool):=.k true
def z36:Bool×Bool:=(zbao).fin default
def zbai:AL zb1 (Unit):=zu
def zOy:=zi zbai λx=>((z36 ).1,zYq (z36 ).2)
theorem z2L:Sound Tryz.prog zb1 12 zOy:=
 z1F (cx':=zUe) zGC zO5 zbd0 (zbcs ⟨zsF.nodr,zX1.nodr,zQW.nodr,zDI,zLH.nodr,z5f.nodr,zzB.nodr,zVm.nodr,z6z.nodr,z2q.nodr,z3d.nodr,trivial⟩) call12 func12 (c:=body f12) (by kernel_rfl) (zXd (l:=[]) (by kernel_rfl) trivial (js:=[jn (body f12) 6]) (by kernel_rfl) ⟨z6K,trivial⟩) (sg:=⟨[.pure],[]⟩)
def z9d:AL base (yC×Int×Int×Unit):=ze (zf (vSl 28)) (ze (zf (znK .i64)) (ze (zf (znK .i64)) zu))
def zxJ (F:yC->Int->Int->Bool×Int):Ab.Spec ty:=zi z9d λx=>((F x.1 x.2.1 x.2.2.1).1,zSM (F x.1 x.2.1 x.2.2.1).2)
abbrev zj8:=yC×Int×Int×Int×Int×Int×Unit×Int×Unit
abbrev zQZ:=yC×Int×Int×Int×Int×Int×At
abbrev zRt:=yC×Int×Int×Int×Int×Int
abbrev zA6:=yC×Int×Int×Int×Int×Int×Unit
abbrev zRL:=yC×Int×Int×Int×Int
abbrev zBl:=yC×Int×Int×Int×Int×Unit
def zCY (zK:yC->Int->Int->Bool×Int) (a:yC) (limit:Int) (zdz:Int) (n_:Int) (i:Int) (k:Int) (j:Int) (x_:At):Wy zj8 (At×Unit) zQZ:=.i (decide (j<Int.ofNat x_.Ag.length)) (.i (decide (n_<=limit)) (.i (decide (0<=j)&&decide (j<Int.ofNat x_.Ag.length)) (.bn (zK (x_.Ag.getD j.toNat default) (IntKind.i64.wrap (limit - n_)) (IntKind.i64.wrap (zdz - 1))) λr0=>.h (a,limit,zdz,(IntKind.i64.wrap (n_+r0)),i,k,(),(IntKind.i64.wrap (j+1)),()) (x_,())) .d) (.k (a,limit,zdz,n_,i,k,x_))) (.k (a,limit,zdz,n_,i,k,x_))
def zKX (zK:yC->Int->Int->Bool×Int) (x:zj8) (y:At×Unit):=zCY zK x.1 x.2.1 x.2.2.1 x.2.2.2.1 x.2.2.2.2.1 x.2.2.2.2.2.1 x.2.2.2.2.2.2.2.1 y.1
def zCN (zK:yC->Int->Int->Bool×Int) (n:Nat) (a:yC) (limit:Int) (zdz:Int) (n_:Int) (i:Int) (k:Int) (j:Int) (x_:At):=zC (zKX zK) default n (a,limit,zdz,n_,i,k,(),j,()) (x_,())
def zYy (r:zQZ):LTree ty:=.done (.exit 4) [.sl 28 r.1,.lit (.int .i64 r.2.1),.lit (.int .i64 r.2.2.1),.lit (.int .i64 r.2.2.2.1),.lit (.int .i64 r.2.2.2.2.1),.lit (.int .i64 r.2.2.2.2.2.1),.ptr 544 0] [.box (base.enc 67 r.2.2.2.2.2.2) false]
def z04:LL ty zj8:=za (lSl 28) (za zj (za zj (za zj (za zj (za zj (za (ze3 544 0) (za zj zl)))))))
def zCj (zK:yC->Int->Int->Bool×Int) (a:yC) (limit:Int) (zdz:Int) (n_:Int) (i:Int) (k:Int) (j:Int) (x_:At):Wy zj8 (At×Unit) zRt:=.i (decide (j<Int.ofNat x_.Items.length)) (.i (decide (n_<=limit)) (.i (decide (0<=j)&&decide (j<Int.ofNat x_.Items.length)) (.i (decide (0<=j)&&decide (j<Int.ofNat x_.Items.length)) (.bn (zK (x_.Items.getD j.toNat default).Ann (IntKind.i64.wrap (limit - n_)) (IntKind.i64.wrap (zdz - 1))) λr2=>.h (a,limit,zdz,(IntKind.i64.wrap (IntKind.i64.wrap (n_+Int.ofNat (x_.Items.getD j.toNat default).Value.Text.size)+r2)),i,k,(),(IntKind.i64.wrap (j+1)),()) (x_,())) .d) .d) (.k (a,limit,zdz,n_,i,k))) (.k (a,limit,zdz,n_,i,k))
def zK1 (zK:yC->Int->Int->Bool×Int) (x:zj8) (y:At×Unit):=zCj zK x.1 x.2.1 x.2.2.1 x.2.2.2.1 x.2.2.2.2.1 x.2.2.2.2.2.1 x.2.2.2.2.2.2.2.1 y.1
def zB8 (zK:yC->Int->Int->Bool×Int) (n:Nat) (a:yC) (limit:Int) (zdz:Int) (n_:Int) (i:Int) (k:Int) (j:Int) (x_:At):=zC (zK1 zK) default n (a,limit,zdz,n_,i,k,(),j,()) (x_,())
def zYs (r:zRt):LTree ty:=.done (.exit 6) [.sl 28 r.1,.lit (.int .i64 r.2.1),.lit (.int .i64 r.2.2.1),.lit (.int .i64 r.2.2.2.1),.lit (.int .i64 r.2.2.2.2.1),.lit (.int .i64 r.2.2.2.2.2)] []
def zD6 (zK:yC->Int->Int->Bool×Int) (a:yC) (limit:Int) (zdz:Int) (n_:Int) (i:Int) (k:Int):Wy zA6 Unit zRL:=.i (decide (0<=i)&&decide (i<Int.ofNat a.length)) (.i (decide (k<Int.ofNat (a.getD i.toNat default).Fs.length)) (.i (decide (n_<=limit)) (.i (decide (0<=i)&&decide (i<Int.ofNat a.length)) (.i (decide (0<=k)&&decide (k<Int.ofNat (a.getD i.toNat default).Fs.length)) (.bn (zCN zK (a.length+limit.toNat +zdz.toNat +(IntKind.i64.wrap (IntKind.i64.wrap (IntKind.i64.wrap (n_+Int.ofNat ((a.getD i.toNat default).Fs.getD k.toNat default).At.Items.length)+Int.ofNat ((a.getD i.toNat default).Fs.getD k.toNat default).At.Ag.length)+Int.ofNat ((a.getD i.toNat default).Fs.getD k.toNat default).At.Bd.Text.size)).toNat +i.toNat +k.toNat +Int.toNat 0+((a.getD i.toNat default).Fs.getD k.toNat default).At.Ag.length+((a.getD i.toNat default).Fs.getD k.toNat default).At.Items.length+1) a limit zdz (IntKind.i64.wrap (IntKind.i64.wrap (IntKind.i64.wrap (n_+Int.ofNat ((a.getD i.toNat default).Fs.getD k.toNat default).At.Items.length)+Int.ofNat ((a.getD i.toNat default).Fs.getD k.toNat default).At.Ag.length)+Int.ofNat ((a.getD i.toNat default).Fs.getD k.toNat default).At.Bd.Text.size)) i k 0 (At.mk ((a.getD i.toNat default).Fs.getD k.toNat default).At.Kind ((a.getD i.toNat default).Fs.getD k.toNat default).At.Row ((a.getD i.toNat default).Fs.getD k.toNat default).At.Ag ((a.getD i.toNat default).Fs.getD k.toNat default).At.Func ((a.getD i.toNat default).Fs.getD k.toNat default).At.Items ((a.getD i.toNat default).Fs.getD k.toNat default).At.Op ((a.getD i.toNat default).Fs.getD k.toNat default).At.Bd)) λr5=>.bn (zB8 zK (r5.1.length+r5.2.1.toNat +r5.2.2.1.toNat +r5.2.2.2.1.toNat +r5.2.2.2.2.1.toNat +r5.2.2.2.2.2.1.toNat +Int.toNat 0+r5.2.2.2.2.2.2.Ag.length+r5.2.2.2.2.2.2.Items.length+1) r5.1 r5.2.1 r5.2.2.1 r5.2.2.2.1 r5.2.2.2.2.1 r5.2.2.2.2.2.1 0 (At.mk r5.2.2.2.2.2.2.Kind r5.2.2.2.2.2.2.Row r5.2.2.2.2.2.2.Ag r5.2.2.2.2.2.2.Func r5.2.2.2.2.2.2.Items r5.2.2.2.2.2.2.Op r5.2.2.2.2.2.2.Bd)) λr4=>.h ((r4.1),(r4.2.1),(r4.2.2.1),(r4.2.2.2.1),(r4.2.2.2.2.1),(IntKind.i64.wrap (r4.2.2.2.2.2+1)),()) ()) .d) .d) (.k (a,limit,zdz,n_,i))) (.k (a,limit,zdz,n_,i))) .d
def zMy (zK:yC->Int->Int->Bool×Int) (x:zA6) (y:Unit):=zD6 zK x.1 x.2.1 x.2.2.1 x.2.2.2.1 x.2.2.2.2.1 x.2.2.2.2.2.1
def zEi (zK:yC->Int->Int->Bool×Int) (n:Nat) (a:yC) (limit:Int) (zdz:Int) (n_:Int) (i:Int) (k:Int):=zC (zMy zK) default n (a,limit,zdz,n_,i,k,()) ()
def z1b (r:zRL):LTree ty:=.done (.exit 2) [.sl 28 r.1,.lit (.int .i64 r.2.1),.lit (.int .i64 r.2.2.1),.lit (.int .i64 r.2.2.2.1),.lit (.int .i64 r.2.2.2.2)] []
def z2u:LL ty zA6:=za (lSl 28) (za zj (za zj (za zj (za zj (za zj zl)))))
def zEn (zK:yC->Int->Int->Bool×Int) (a:yC) (limit:Int) (zdz:Int) (n_:Int) (i:Int):Wy zBl Unit (Int):=.i (decide (i<Int.ofNat a.length)) (.i (decide (n_<=limit)) (.i (decide (0<=i)&&decide (i<Int.ofNat a.length)) (.bn (zEi zK (a.length+limit.toNat +zdz.toNat +(IntKind.i64.wrap (IntKind.i64.wrap (n_+1)+Int.ofNat (a.getD i.toNat default).Fs.length)).toNat +i.toNat +Int.toNat 0+1) a limit zdz (IntKind.i64.wrap (IntKind.i64.wrap (n_+1)+Int.ofNat (a.getD i.toNat default).Fs.length)) i 0) λr8=>.h ((r8.1),(r8.2.1),(r8.2.2.1),(r8.2.2.2.1),(IntKind.i64.wrap (r8.2.2.2.2+1)),()) ()) .d) (.k n_)) (.k n_)
def zMJ (zK:yC->Int->Int->Bool×Int) (x:zBl) (y:Unit):=zEn zK x.1 x.2.1 x.2.2.1 x.2.2.2.1 x.2.2.2.2.1
def zEr (zK:yC->Int->Int->Bool×Int) (n:Nat) (a:yC) (limit:Int) (zdz:Int) (n_:Int) (i:Int):=zC (zMJ zK) default n (a,limit,zdz,n_,i,()) ()
def z2w:LL ty zBl:=za (lSl 28) (za zj (za zj (za zj (za zj zl))))
def zXT (x:zj8) (y:At×Unit):Nat:=(x.1.length+Int.toNat x.2.1+Int.toNat x.2.2.1+Int.toNat x.2.2.2.1+Int.toNat x.2.2.2.2.1+Int.toNat x.2.2.2.2.2.1+Int.toNat x.2.2.2.2.2.2.2.1+y.1.Ag.length+y.1.Items.length+1)
def zYH (x:zA6) (y:Unit):Nat:=(x.1.length+Int.toNat x.2.1+Int.toNat x.2.2.1+Int.toNat x.2.2.2.1+Int.toNat x.2.2.2.2.1+Int.toNat x.2.2.2.2.2.1+1)
def z0R (x:zBl) (y:Unit):Nat:=(x.1.length+Int.toNat x.2.1+Int.toNat x.2.2.1+Int.toNat x.2.2.2.1+Int.toNat x.2.2.2.2.1+1)
def zqh (zK:yC->Int->Int->Bool×Int):=zbV base 136 [(48,(zxJ zK))] [] [(5,(kpL [0,1,2,7,8])),(9,(kpL [0,1,2,7,8,9])),(14,(kpL [0,1,2,7,8,9,10,11])),(18,(kpL [0,1,2,7,8,9,10,12]))] [(5,1,(kpL [7])),(9,3,(kpL [0,1,2,7,8])),(14,5,(kpL [0,1,2,7,8,9,10])),(18,7,(kpL [0,1,2,7,8,9]))] [(14,spW z04 zXE (zKX zK) default zYy zXT),(18,spW z04 zXE (zK1 zK) default zYs zXT),(9,spW z2u zba6 (zMy zK) default z1b zYH),(5,spW z2w zba6 (zMJ zK) default zTB z0R)] []
theorem zYk (zK:yC->Int->Int->Bool×Int):zF (zqh zK) (lp (body f48) 2):=zq (id:=14) (hl:=rfl)
theorem zX0 (zK:yC->Int->Int->Bool×Int):zF (zqh zK) (lp (body f48) 3):=zq (id:=18) (hl:=rfl)
theorem zZt (zK:yC->Int->Int->Bool×Int):zF (zqh zK) (lp (body f48) 1):=zq (id:=9) (hl:=rfl)
theorem z0F (zK:yC->Int->Int->Bool×Int):zF (zqh zK) (lp (body f48) 0):=zq (id:=5) (hl:=rfl)
def zFr (zK:yC->Int->Int->Bool×Int) (a:yC) (limit:Int) (zdz:Int):Wy0 (Int):=.i (zdz==0) (.k (IntKind.i64.wrap (limit+1))) (.bn (zEr zK (a.length+limit.toNat +zdz.toNat +Int.toNat 0+Int.toNat 0+1) a limit zdz 0 0) λr10=>.k r10)
def zxu (zK:yC->Int->Int->Bool×Int) (a:yC) (limit:Int) (zdz:Int):=(zFr zK a limit zdz).fin default
theorem zVJ (zK:yC->Int->Int->Bool×Int) (z4A:SdP 48 (zxJ zK)):SdP 48 (zxJ (zxu zK)):=
 sT (cx':=(zqh zK)) (zk ⟨z4A,trivial⟩) call48 func48 (lOK (aC (z0F zK) (aC (zZt zK) (aC (zYk zK) (aC (zX0 zK) aN)))))
def z3V:Nat->(yC->Int->Int->Bool×Int)
 | 0=>λ_ _ _=>(false,default)
 | n+1=>zxu (z3V n)
def zrw (n:Nat):yC->Int->Int->Bool×Int:=z3V n
theorem zMV (n:Nat):zrw (n+1)=zxu (zrw n):=rfl
theorem zWU:∀ n,SdP 48 (zxJ (zrw n))
 | 0=>zbb call48 (λ_=>rfl)
 | n+1=>by
  have ih:=zWU n;exact zVJ _ (ih)
def zP9:yC->Int->Int->Bool×Int:=zrw 1000
def zMt:Ab.Spec ty:=zxJ zP9
theorem zYT:SdP 48 zMt:=(zWU 1000)
end Go.Proofs.YtljlfiomikifjaaGreatDoor
end
