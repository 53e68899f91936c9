/- Texts of this claim, joined (the program, its functions in plain words, and what they compute). -/
import Derived.Test.YtljlfiomikifjaaGreatDoorGC1
set_option autoImplicit false
set_option linter.unusedVariables false
set_option linter.unusedSectionVars false
set_option linter.unusedSimpArgs false
set_option maxRecDepth 1000000
set_option maxHeartbeats 0
noncomputable section
namespace Go.Proofs.YtljlfiomikifjaaGreatDoor
open Go Go.Ab
open Go.Proofs.Tryz
abbrev zck:=yC×yC×Unit×yC×Int×Int×Unit
abbrev zfm:=Int⊕(yC×yC)
def zi7 (zQ:Term->Term->Bool×Int) (s1:yC) (s2:yC) (t11:yC) (t12:Int) (t13:Int):Wy zck Unit zfm:=.i (decide (t13<t12)) (.i (decide (0<=t13)&&decide (t13<Int.ofNat t11.length)) (.i (decide (t13≥Int.ofNat s2.length)) (.k (.inl 1)) (.i (decide (0<=t13)&&decide (t13<Int.ofNat s2.length)) (.bn (zQ (t11.getD t13.toNat default) (s2.getD t13.toNat default)) λr0=>.i (r0 != 0) (.k (.inl (r0))) (.h (s1,s2,(),t11,t12,(IntKind.i64.wrap (t13+1)),()) ())) .d)) .d) (.k (.inr (s1,s2)))
def zek (zQ:Term->Term->Bool×Int) (x:zck) (y:Unit):=zi7 zQ x.1 x.2.1 x.2.2.2.1 x.2.2.2.2.1 x.2.2.2.2.2.1
def zja (zQ:Term->Term->Bool×Int) (n:Nat) (s1:yC) (s2:yC) (t11:yC) (t12:Int) (t13:Int):=zC (zek zQ) (.inl default) n (s1,s2,(),t11,t12,t13,()) ()
def zi4 (r:zfm):LTree ty:=.ite (isL r) (.done .ret [.lit (.int .i64 (getL r))] []) (.done (.exit 0) [.sl 28 (getR r).1,.sl 28 (getR r).2] [])
def zi9:LL ty zck:=za (lSl 28) (za (lSl 28) (za (lFn 137 (zl)) (za (lSl 28) (za zj (za zj zl)))))
def ziR (x:zck) (y:Unit):Nat:=(x.1.length+x.2.1.length+x.2.2.2.1.length+Int.toNat x.2.2.2.2.1+Int.toNat x.2.2.2.2.2.1+1)
def zel (zQ:Term->Term->Bool×Int):=zb3 base 39 [(137,(zgT zQ))] [] [(2,(kpL [0,1,2,11,12,13]))] [(2,1,(kpL [0,1])),(2,0,(kpL [6]))] [(2,spW zi9 zZe (zek zQ) (.inl default) zi4 ziR)] []
theorem ziS (zQ:Term->Term->Bool×Int):zF (zel zQ) (lp (body f136) 0):=zq (id:=2) (hl:=rfl)
def zjB (zQ:Term->Term->Bool×Int) (s1:yC) (s2:yC):Wy0 (Int):=.bn (zja zQ (s1.length+s2.length+s1.length+(Int.ofNat s1.length).toNat +Int.toNat 0+1) s1 s2 s1 (Int.ofNat s1.length) 0) λr2=>.i (isL r2) (.k (getL r2)) (.i (decide (Int.ofNat (getR r2).1.length<Int.ofNat (getR r2).2.length)) (.k (-1:Int)) (.k 0))
def zbV (zQ:Term->Term->Bool×Int) (s1:yC) (s2:yC):=(zjB zQ s1 s2).fin default
theorem zia (zQ:Term->Term->Bool×Int) (zrj:SdP 137 (zgT zQ)):SdP 136 (zbW (zbV zQ)):=
 sT (cx':=(zel zQ)) (zk ⟨zrj,trivial⟩) call136 func136 (lOK (aC (ziS zQ) aN))
def zct:Nat->(yC->yC->Bool×Int)×(Term->Term->Bool×Int)×(Term->Term->Bool×Int)×(Fc->Fc->Bool×Int)×(At->At->Bool×Int)×(Wd->Wd->Bool×Int)×(yC->yC->Bool×Int)×(yD->yD->Bool×Int)×(yA->yA->Bool×Int)×(yE->yE->Bool×Int)
 | 0=>(λ_ _=>(false,default),λ_ _=>(false,default),λ_ _=>(false,default),λ_ _=>(false,default),λ_ _=>(false,default),λ_ _=>(false,default),λ_ _=>(false,default),λ_ _=>(false,default),λ_ _=>(false,default),λ_ _=>(false,default))
 | n+1=>(zqF ((zct n).2.2.2.2.2.2.1) ((zct n).2.1),znj ((zct n).2.2.1),zlD ((zct n).2.2.2.2.2.2.2.1) ((zct n).2.2.2.1),zkh ((zct n).2.2.2.2.1),zlA ((zct n).1) ((zct n).2.2.2.2.2.2.2.2.1) ((zct n).2.2.2.2.2.2.2.2.2) ((zct n).2.2.2.2.2.1),zlJ ((zct n).1),zbV ((zct n).2.1),zbD ((zct n).2.2.2.1),zbw ((zct n).1),zbO ((zct n).2.2.2.2.2.1))
def zgU (n:Nat):yC->yC->Bool×Int:=(zct n).1
def zjP (n:Nat):Term->Term->Bool×Int:=(zct n).2.1
def zh7 (n:Nat):Term->Term->Bool×Int:=(zct n).2.2.1
def zgM (n:Nat):Fc->Fc->Bool×Int:=(zct n).2.2.2.1
def zh5 (n:Nat):At->At->Bool×Int:=(zct n).2.2.2.2.1
def zfO (n:Nat):Wd->Wd->Bool×Int:=(zct n).2.2.2.2.2.1
def zbX (n:Nat):yC->yC->Bool×Int:=(zct n).2.2.2.2.2.2.1
def zb5 (n:Nat):yD->yD->Bool×Int:=(zct n).2.2.2.2.2.2.2.1
def zby (n:Nat):yA->yA->Bool×Int:=(zct n).2.2.2.2.2.2.2.2.1
def zbN (n:Nat):yE->yE->Bool×Int:=(zct n).2.2.2.2.2.2.2.2.2
theorem zQD (n:Nat):zgU (n+1)=zqF (zbX n) (zjP n):=rfl
theorem zMd (n:Nat):zjP (n+1)=znj (zh7 n):=rfl
theorem zJc (n:Nat):zh7 (n+1)=zlD (zb5 n) (zgM n):=rfl
theorem zHk (n:Nat):zgM (n+1)=zkh (zh5 n):=rfl
theorem zJK (n:Nat):zh5 (n+1)=zlA (zgU n) (zby n) (zbN n) (zfO n):=rfl
theorem zIU (n:Nat):zfO (n+1)=zlJ (zgU n):=rfl
theorem zi8 (n:Nat):zbX (n+1)=zbV (zjP n):=rfl
theorem zjK (n:Nat):zb5 (n+1)=zbD (zgM n):=rfl
theorem zf5 (n:Nat):zby (n+1)=zbw (zgU n):=rfl
theorem zhw (n:Nat):zbN (n+1)=zbO (zfO n):=rfl
theorem zz5:∀ n,SdP 67 (zl7 (zgU n))/\SdP 137 (zgT (zjP n))/\SdP 63 (zgT (zh7 n))/\SdP 119 (zfc (zgM n))/\SdP 65 (znK (zh5 n))/\SdP 124 (zeP (zfO n))/\SdP 136 (zbW (zbX n))/\SdP 118 (zb4 (zb5 n))/\SdP 122 (zbx (zby n))/\SdP 123 (zbL (zbN n))
 | 0=>⟨zbc call67 (λ_=>rfl),zbc call137 (λ_=>rfl),zbc call63 (λ_=>rfl),zbc call119 (λ_=>rfl),zbc call65 (λ_=>rfl),zbc call124 (λ_=>rfl),zbc call136 (λ_=>rfl),zbc call118 (λ_=>rfl),zbc call122 (λ_=>rfl),zbc call123 (λ_=>rfl)⟩
 | n+1=>by
  have ih:=zz5 n;exact ⟨zMw _ _ (ih.2.2.2.2.2.2.1) (ih.2.1),zIc _ (ih.2.2.1),zGm _ _ (ih.2.2.2.2.2.2.2.1) (ih.2.2.2.1),zEN _ (ih.2.2.2.2.1),zGt _ _ _ _ (ih.1) (ih.2.2.2.2.2.2.2.2.1) (ih.2.2.2.2.2.2.2.2.2) (ih.2.2.2.2.2.1),zGl _ (ih.1),zia _ (ih.2.1),ziZ _ (ih.2.2.2.1),zfD _ (ih.1),zgY _ (ih.2.2.2.2.2.1)⟩
def zCY:yC->yC->Bool×Int:=zgU 1000
def zDS:Ab.Spec ty:=zl7 zCY
theorem zPs:SdP 67 zDS:=(zz5 1000).1
def zcb:Term->Term->Bool×Int:=zh7 1000
def zju:Ab.Spec ty:=zgT zcb
theorem zm8:SdP 63 zju:=(zz5 1000).2.2.1
def zjY:At->At->Bool×Int:=zh5 1000
def zn2:Ab.Spec ty:=znK zjY
theorem zwb:SdP 65 zn2:=(zz5 1000).2.2.2.2.1
def zbQ:Wd->Wd->Bool×Int:=zfO 1000
def zch:Ab.Spec ty:=zeP zbQ
theorem zcq:SdP 124 zch:=(zz5 1000).2.2.2.2.2.1
def zZJ:AL base (yC×Unit):=ze (zf (vSl 28)) zu
def ziH (F:yC->Bool×Bool):Ab.Spec ty:=zi zZJ λx=>((F x.1).1,zYt (F x.1).2)
def zE5:AL base (At×Unit):=ze (zf (zcV 67)) zu
def zoa (F:At->Bool×Bool):Ab.Spec ty:=zi zE5 λx=>((F x.1).1,zYt (F x.1).2)
def zNF:AL base (Wd×Unit):=ze (zf (zcV 100)) zu
def zdT (F:Wd->Bool×Bool):Ab.Spec ty:=zi zNF λx=>((F x.1).1,zYt (F x.1).2)
def zpK:AL base (yA×Unit×Unit):=ze (zf (vSl 23)) (ze (zf (vFn 127 zb7)) zu)
def zcU (F:yA->Bool×Int):Ab.Spec ty:=zi zpK λx=>((F x.1).1,z2L (F x.1).2)
def zcF (F:yA->Bool×Bool):Ab.Spec ty:=zi zpK λx=>((F x.1).1,zYt (F x.1).2)
def zsA:AL base (yE×Unit×Unit):=ze (zf (vSl 100)) (ze (zf (vFn 133 zb7)) zu)
def zdu (F:yE->Bool×Int):Ab.Spec ty:=zi zsA λx=>((F x.1).1,z2L (F x.1).2)
def zc1 (F:yE->Bool×Bool):Ab.Spec ty:=zi zsA λx=>((F x.1).1,zYt (F x.1).2)
def zPi:=zbt base 11 []
def zD9 (x_:At):Wy0 (Bool):=.i (x_.Kind==3) (.k true) (.k (x_.Kind==4))
def zgi (x_:At):=(zD9 x_).fin default
def zk0:=zi zE5 λx=>((zgi x.1).1,zYt (zgi x.1).2)
theorem zpa:SdP 64 zk0:=
 sT (cx':=zPi) (zk trivial) call64 func64 (lOK aN)
def zqw (F:yC->Bool×Int):Ab.Spec ty:=zi zZJ λx=>((F x.1).1,z2L (F x.1).2)
abbrev zuy:=Int×Unit×yC×Int×Int×yD×Int×Int×yA×Int×Int×Unit
abbrev zLh:=Int×yC×Int×Int×yD×Int×Int×Fc
abbrev zu2:=Int×yC×Int×Int×yD×Int×Int×yE×Int×Int×Unit
abbrev zKy:=Int×yC×Int×Int×yD×Int×Int
abbrev zux:=Int×yC×Int×Int×yD×Int×Int×Unit
abbrev zKU:=Int×yC×Int×Int
abbrev zu3:=Int×yC×Int×Int×Unit
def zlo (zw:yC->Bool×Int) (n_:Int) (t12:yC) (t13:Int) (t14:Int) (t25:yD) (t26:Int) (t27:Int) (t33:yA) (t34:Int) (t35:Int) (f:Fc):Wy zuy (Fc×Unit) zLh:=.i (decide (t35<t34)) (.i (decide (0<=t35)&&decide (t35<Int.ofNat t33.length)) (.bn (zw (t33.getD t35.toNat default)) λr0=>.h ((IntKind.i64.wrap (n_+r0)),(),t12,t13,t14,t25,t26,t27,t33,t34,(IntKind.i64.wrap (t35+1)),()) (f,())) .d) (.k (n_,t12,t13,t14,t25,t26,t27,f))
def zw5 (zw:yC->Bool×Int) (x:zuy) (y:Fc×Unit):=zlo zw x.1 x.2.2.1 x.2.2.2.1 x.2.2.2.2.1 x.2.2.2.2.2.1 x.2.2.2.2.2.2.1 x.2.2.2.2.2.2.2.1 x.2.2.2.2.2.2.2.2.1 x.2.2.2.2.2.2.2.2.2.1 x.2.2.2.2.2.2.2.2.2.2.1 y.1
def zF3 (zw:yC->Bool×Int) (n:Nat) (n_:Int) (t12:yC) (t13:Int) (t14:Int) (t25:yD) (t26:Int) (t27:Int) (t33:yA) (t34:Int) (t35:Int) (f:Fc):=zC (zw5 zw) default n (n_,(),t12,t13,t14,t25,t26,t27,t33,t34,t35,()) (f,())
def zSJ (r:zLh):LTree ty:=.done (.exit 4) [.lit (.int .i64 r.1),.ptr 248 0,.sl 28 r.2.1,.lit (.int .i64 r.2.2.1),.lit (.int .i64 r.2.2.2.1),.sl 69 r.2.2.2.2.1,.lit (.int .i64 r.2.2.2.2.2.1),.lit (.int .i64 r.2.2.2.2.2.2.1)] [.box (base.enc 69 r.2.2.2.2.2.2.2) false]
def zUf:LL ty zuy:=za zj (za (zgc 248 0) (za (lSl 28) (za zj (za zj (za (lSl 69) (za zj (za zj (za (lSl 23) (za zj (za zj zl))))))))))
def zTU:BL ty (Fc×Unit):=zj7 (zh1 (λx=>(⟨⟨x.1,⟨x.2.1,x.2.2.1⟩,x.2.2.2.1,x.2.2.2.2.1,x.2.2.2.2.2.1,x.2.2.2.2.2.2.1,⟨x.2.2.2.2.2.2.2.1,x.2.2.2.2.2.2.2.2.1,x.2.2.2.2.2.2.2.2.2.1⟩⟩,x.2.2.2.2.2.2.2.2.2.2.1⟩:Fc)) (λx=>(x.At.Kind,x.At.Row.Table,x.At.Row.Seq,x.At.Ag,x.At.Func,x.At.Items,x.At.Op,x.At.Bd.Kind,x.At.Bd.Int,x.At.Bd.Text,x.Exp,())) (λ_=>rfl) (za (zT .i64) (za (zT .i64) (za (zT .i64) (za (lSl 23) (za (zT .i64) (za (lSl 100) (za (zT .i64) (za (zT .i64) (za (zT .i64) (za zsR (za (zT .i64) zl)))))))))))) false (zbe)
def zlr (zw:yC->Bool×Int) (n_:Int) (t12:yC) (t13:Int) (t14:Int) (t25:yD) (t26:Int) (t27:Int) (t46:yE) (t47:Int) (t48:Int):Wy zu2 Unit zKy:=.i (decide (t48<t47)) (.i (decide (0<=t48)&&decide (t48<Int.ofNat t46.length)) (.bn (zw (t46.getD t48.toNat default).Ann) λr2=>.h ((IntKind.i64.wrap (n_+IntKind.i64.wrap (1+r2))),t12,t13,t14,t25,t26,t27,t46,t47,(IntKind.i64.wrap (t48+1)),()) ()) .d) (.k (n_,t12,t13,t14,t25,t26,t27))
def zxE (zw:yC->Bool×Int) (x:zu2) (y:Unit):=zlr zw x.1 x.2.1 x.2.2.1 x.2.2.2.1 x.2.2.2.2.1 x.2.2.2.2.2.1 x.2.2.2.2.2.2.1 x.2.2.2.2.2.2.2.1 x.2.2.2.2.2.2.2.2.1 x.2.2.2.2.2.2.2.2.2.1
def zF8 (zw:yC->Bool×Int) (n:Nat) (n_:Int) (t12:yC) (t13:Int) (t14:Int) (t25:yD) (t26:Int) (t27:Int) (t46:yE) (t47:Int) (t48:Int):=zC (zxE zw) default n (n_,t12,t13,t14,t25,t26,t27,t46,t47,t48,()) ()
def zR3 (r:zKy):LTree ty:=.done (.exit 6) [.lit (.int .i64 r.1),.sl 28 r.2.1,.lit (.int .i64 r.2.2.1),.lit (.int .i64 r.2.2.2.1),.sl 69 r.2.2.2.2.1,.lit (.int .i64 r.2.2.2.2.2.1),.lit (.int .i64 r.2.2.2.2.2.2)] []
def zUp:LL ty zu2:=za zj (za (lSl 28) (za zj (za zj (za (lSl 69) (za zj (za zj (za (lSl 100) (za zj (za zj zl)))))))))
def zmm (zw:yC->Bool×Int) (n_:Int) (t12:yC) (t13:Int) (t14:Int) (t25:yD) (t26:Int) (t27:Int):Wy zux Unit zKU:=.i (decide (t27<t26)) (.i (decide (0<=t27)&&decide (t27<Int.ofNat t25.length)) (.bn (zF3 zw (n_.toNat +t12.length+t13.toNat +t14.toNat +t25.length+t26.toNat +t27.toNat +(t25.getD t27.toNat default).At.Ag.length+(Int.ofNat (t25.getD t27.toNat default).At.Ag.length).toNat +Int.toNat 0+(t25.getD t27.toNat default).At.Ag.length+(t25.getD t27.toNat default).At.Items.length+1) n_ t12 t13 t14 t25 t26 t27 (t25.getD t27.toNat default).At.Ag (Int.ofNat (t25.getD t27.toNat default).At.Ag.length) 0 (FO.mk (At.mk (t25.getD t27.toNat default).At.Kind (t25.getD t27.toNat default).At.Row (t25.getD t27.toNat default).At.Ag (t25.getD t27.toNat default).At.Func (t25.getD t27.toNat default).At.Items (t25.getD t27.toNat default).At.Op (t25.getD t27.toNat default).At.Bd) (t25.getD t27.toNat default).Exp)) λr5=>.bn (zF8 zw (r5.1.toNat +r5.2.1.length+r5.2.2.1.toNat +r5.2.2.2.1.toNat +r5.2.2.2.2.1.length+r5.2.2.2.2.2.1.toNat +r5.2.2.2.2.2.2.1.toNat +r5.2.2.2.2.2.2.2.At.Items.length+(Int.ofNat r5.2.2.2.2.2.2.2.At.Items.length).toNat +Int.toNat 0+1) r5.1 r5.2.1 r5.2.2.1 r5.2.2.2.1 r5.2.2.2.2.1 r5.2.2.2.2.2.1 r5.2.2.2.2.2.2.1 r5.2.2.2.2.2.2.2.At.Items (Int.ofNat r5.2.2.2.2.2.2.2.At.Items.length) 0) λr4=>.h ((r4.1),(r4.2.1),(r4.2.2.1),(r4.2.2.2.1),(r4.2.2.2.2.1),(r4.2.2.2.2.2.1),(IntKind.i64.wrap (r4.2.2.2.2.2.2+1)),()) ()) .d) (.k (n_,t12,t13,t14))
def zy7 (zw:yC->Bool×Int) (x:zux) (y:Unit):=zmm zw x.1 x.2.1 x.2.2.1 x.2.2.2.1 x.2.2.2.2.1 x.2.2.2.2.2.1 x.2.2.2.2.2.2.1
def zGx (zw:yC->Bool×Int) (n:Nat) (n_:Int) (t12:yC) (t13:Int) (t14:Int) (t25:yD) (t26:Int) (t27:Int):=zC (zy7 zw) default n (n_,t12,t13,t14,t25,t26,t27,()) ()
def zTw (r:zKU):LTree ty:=.done (.exit 2) [.lit (.int .i64 r.1),.sl 28 r.2.1,.lit (.int .i64 r.2.2.1),.lit (.int .i64 r.2.2.2)] []
def zVA:LL ty zux:=za zj (za (lSl 28) (za zj (za zj (za (lSl 69) (za zj (za zj zl))))))
def zl5 (zw:yC->Bool×Int) (n_:Int) (t12:yC) (t13:Int) (t14:Int):Wy zu3 Unit (Int):=.i (decide (t14<t13)) (.i (decide (0<=t14)&&decide (t14<Int.ofNat t12.length)) (.bn (zGx zw ((IntKind.i64.wrap (n_+IntKind.i64.wrap (1+Int.ofNat (t12.getD t14.toNat default).Fs.length))).toNat +t12.length+t13.toNat +t14.toNat +(t12.getD t14.toNat default).Fs.length+(Int.ofNat (t12.getD t14.toNat default).Fs.length).toNat +Int.toNat 0+1) (IntKind.i64.wrap (n_+IntKind.i64.wrap (1+Int.ofNat (t12.getD t14.toNat default).Fs.length))) t12 t13 t14 (t12.getD t14.toNat default).Fs (Int.ofNat (t12.getD t14.toNat default).Fs.length) 0) λr8=>.h ((r8.1),(r8.2.1),(r8.2.2.1),(IntKind.i64.wrap (r8.2.2.2+1)),()) ()) .d) (.k n_)
def zzK (zw:yC->Bool×Int) (x:zu3) (y:Unit):=zl5 zw x.1 x.2.1 x.2.2.1 x.2.2.2.1
def zGy (zw:yC->Bool×Int) (n:Nat) (n_:Int) (t12:yC) (t13:Int) (t14:Int):=zC (zzK zw) default n (n_,t12,t13,t14,()) ()
def zUS (r:Int):LTree ty:=.done (.exit 0) [.lit (.int .i64 r)] []
def zVJ:LL ty zu3:=za zj (za (lSl 28) (za zj (za zj zl)))
def zSa (x:zuy) (y:Fc×Unit):Nat:=(Int.toNat x.1+x.2.2.1.length+Int.toNat x.2.2.2.1+Int.toNat x.2.2.2.2.1+x.2.2.2.2.2.1.length+Int.toNat x.2.2.2.2.2.2.1+Int.toNat x.2.2.2.2.2.2.2.1+x.2.2.2.2.2.2.2.2.1.length+Int.toNat x.2.2.2.2.2.2.2.2.2.1+Int.toNat x.2.2.2.2.2.2.2.2.2.2.1+y.1.At.Ag.length+y.1.At.Items.length+1)
def zSk (x:zu2) (y:Unit):Nat:=(Int.toNat x.1+x.2.1.length+Int.toNat x.2.2.1+Int.toNat x.2.2.2.1+x.2.2.2.2.1.length+Int.toNat x.2.2.2.2.2.1+Int.toNat x.2.2.2.2.2.2.1+x.2.2.2.2.2.2.2.1.length+Int.toNat x.2.2.2.2.2.2.2.2.1+Int.toNat x.2.2.2.2.2.2.2.2.2.1+1)
def zUU (x:zux) (y:Unit):Nat:=(Int.toNat x.1+x.2.1.length+Int.toNat x.2.2.1+Int.toNat x.2.2.2.1+x.2.2.2.2.1.length+Int.toNat x.2.2.2.2.2.1+Int.toNat x.2.2.2.2.2.2.1+1)
def zTY (x:zu3) (y:Unit):Nat:=(Int.toNat x.1+x.2.1.length+Int.toNat x.2.2.1+Int.toNat x.2.2.2.1+1)
def zmp (zw:yC->Bool×Int):=zb3 base 62 [(115,(zqw zw))] [] [(3,(kpL [3,12,13,14])),(7,(kpL [3,12,13,14,25,26,27])),(10,(kpL [3,7,12,13,14,25,26,27,33,34,35])),(15,(kpL [3,12,13,14,25,26,27,46,47,48]))] [(3,1,(kpL [3])),(7,3,(kpL [3,12,13,14])),(10,5,(kpL [3,7,12,13,14,25,26,27])),(15,7,(kpL [3,12,13,14,25,26,27]))] [(10,spW zUf zTU (zw5 zw) default zSJ zSa),(15,spW zUp zZe (zxE zw) default zR3 zSk),(7,spW zVA zZe (zy7 zw) default zTw zUU),(3,spW zVJ zZe (zzK zw) default zUS zTY)] []
theorem zSO (zw:yC->Bool×Int):zF (zmp zw) (lp (body f115) 2):=zq (id:=10) (hl:=rfl)
theorem zSY (zw:yC->Bool×Int):zF (zmp zw) (lp (body f115) 3):=zq (id:=15) (hl:=rfl)
theorem zUF (zw:yC->Bool×Int):zF (zmp zw) (lp (body f115) 1):=zq (id:=7) (hl:=rfl)
theorem zUv (zw:yC->Bool×Int):zF (zmp zw) (lp (body f115) 0):=zq (id:=3) (hl:=rfl)
def zII (zw:yC->Bool×Int) (a:yC):Wy0 (Int):=.bn (zGy zw (Int.toNat 0+a.length+(Int.ofNat a.length).toNat +Int.toNat 0+1) 0 a (Int.ofNat a.length) 0) λr10=>.k r10
def zwx (zw:yC->Bool×Int) (a:yC):=(zII zw a).fin default
theorem zQT (zw:yC->Bool×Int) (zXL:SdP 115 (zqw zw)):SdP 115 (zqw (zwx zw)):=
 sT (cx':=(zmp zw)) (zk ⟨zXL,trivial⟩) call115 func115 (lOK (aC (zUv zw) (aC (zUF zw) (aC (zSO zw) (aC (zSY zw) aN)))))
def zbcx:Nat->(yC->Bool×Int)
 | 0=>λ_=>(false,default)
 | n+1=>zwx (zbcx n)
def zmJ (n:Nat):yC->Bool×Int:=zbcx n
theorem zWf (n:Nat):zmJ (n+1)=zwx (zmJ n):=rfl
theorem z5U:∀ n,SdP 115 (zqw (zmJ n))
 | 0=>zbc call115 (λ_=>rfl)
 | n+1=>by
  have ih:=z5U n;exact zQT _ (ih)
def zGD:yC->Bool×Int:=zmJ 1000
def zHb:Ab.Spec ty:=zqw zGD
theorem zUE:SdP 115 zHb:=(z5U 1000)
abbrev zpG:=Int×Unit×Int×yC×Int×Int×yD×Int×Int×yA×Int×Int×Unit
abbrev zGf:=Int×Int×yC×Int×Int×yD×Int×Int×Fc
abbrev zpB:=Int×Int×yC×Int×Int×yD×Int×Int×yE×Int×Int×Unit
abbrev zF5:=Int×Int×yC×Int×Int×yD×Int×Int
abbrev zpo:=Int×yC×Int×Int×yD×Int×Int×Unit
abbrev zGg:=Int×yC×Int×Int
abbrev zpt:=Int×yC×Int×Int×Unit
def ziI (zn:yC->Bool×Int) (n_:Int) (inner:Int) (t13:yC) (t14:Int) (t15:Int) (t20:yD) (t21:Int) (t22:Int) (t32:yA) (t33:Int) (t34:Int) (f:Fc):Wy zpG (Fc×Unit) zGf:=.i (decide (t34<t33)) (.i (decide (0<=t34)&&decide (t34<Int.ofNat t32.length)) (.bn (zn (t32.getD t34.toNat default)) λr0=>.h (n_,(),(if r0>inner then r0 else inner),t13,t14,t15,t20,t21,t22,t32,t33,(IntKind.i64.wrap (t34+1)),()) (f,())) .d) (.k (n_,inner,t13,t14,t15,t20,t21,t22,f))
def zsP (zn:yC->Bool×Int) (x:zpG) (y:Fc×Unit):=ziI zn x.1 x.2.2.1 x.2.2.2.1 x.2.2.2.2.1 x.2.2.2.2.2.1 x.2.2.2.2.2.2.1 x.2.2.2.2.2.2.2.1 x.2.2.2.2.2.2.2.2.1 x.2.2.2.2.2.2.2.2.2.1 x.2.2.2.2.2.2.2.2.2.2.1 x.2.2.2.2.2.2.2.2.2.2.2.1 y.1
def zCH (zn:yC->Bool×Int) (n:Nat) (n_:Int) (inner:Int) (t13:yC) (t14:Int) (t15:Int) (t20:yD) (t21:Int) (t22:Int) (t32:yA) (t33:Int) (t34:Int) (f:Fc):=zC (zsP zn) default n (n_,(),inner,t13,t14,t15,t20,t21,t22,t32,t33,t34,()) (f,())
def zNu (r:zGf):LTree ty:=.done (.exit 4) [.lit (.int .i64 r.1),.ptr 256 0,.lit (.int .i64 r.2.1),.sl 28 r.2.2.1,.lit (.int .i64 r.2.2.2.1),.lit (.int .i64 r.2.2.2.2.1),.sl 69 r.2.2.2.2.2.1,.lit (.int .i64 r.2.2.2.2.2.2.1),.lit (.int .i64 r.2.2.2.2.2.2.2.1)] [.box (base.enc 69 r.2.2.2.2.2.2.2.2) false]
def zOa:LL ty zpG:=za zj (za (zgc 256 0) (za zj (za (lSl 28) (za zj (za zj (za (lSl 69) (za zj (za zj (za (lSl 23) (za zj (za zj zl)))))))))))
def ziV (zn:yC->Bool×Int) (n_:Int) (inner:Int) (t13:yC) (t14:Int) (t15:Int) (t20:yD) (t21:Int) (t22:Int) (t45:yE) (t46:Int) (t47:Int):Wy zpB Unit zF5:=.i (decide (t47<t46)) (.i (decide (0<=t47)&&decide (t47<Int.ofNat t45.length)) (.bn (zn (t45.getD t47.toNat default).Ann) λr2=>.h (n_,(if r2>inner then r2 else inner),t13,t14,t15,t20,t21,t22,t45,t46,(IntKind.i64.wrap (t47+1)),()) ()) .d) (.k (n_,inner,t13,t14,t15,t20,t21,t22))
def zsk (zn:yC->Bool×Int) (x:zpB) (y:Unit):=ziV zn x.1 x.2.1 x.2.2.1 x.2.2.2.1 x.2.2.2.2.1 x.2.2.2.2.2.1 x.2.2.2.2.2.2.1 x.2.2.2.2.2.2.2.1 x.2.2.2.2.2.2.2.2.1 x.2.2.2.2.2.2.2.2.2.1 x.2.2.2.2.2.2.2.2.2.2.1
def zCN (zn:yC->Bool×Int) (n:Nat) (n_:Int) (inner:Int) (t13:yC) (t14:Int) (t15:Int) (t20:yD) (t21:Int) (t22:Int) (t45:yE) (t46:Int) (t47:Int):=zC (zsk zn) default n (n_,inner,t13,t14,t15,t20,t21,t22,t45,t46,t47,()) ()
def zM3 (r:zF5):LTree ty:=.done (.exit 6) [.lit (.int .i64 r.1),.lit (.int .i64 r.2.1),.sl 28 r.2.2.1,.lit (.int .i64 r.2.2.2.1),.lit (.int .i64 r.2.2.2.2.1),.sl 69 r.2.2.2.2.2.1,.lit (.int .i64 r.2.2.2.2.2.2.1),.lit (.int .i64 r.2.2.2.2.2.2.2)] []
def zPH:LL ty zpB:=za zj (za zj (za (lSl 28) (za zj (za zj (za (lSl 69) (za zj (za zj (za (lSl 100) (za zj (za zj zl))))))))))
def zjO (zn:yC->Bool×Int) (n_:Int) (t13:yC) (t14:Int) (t15:Int) (t20:yD) (t21:Int) (t22:Int):Wy zpo Unit zGg:=.i (decide (t22<t21)) (.i (decide (0<=t22)&&decide (t22<Int.ofNat t20.length)) (.i ((t20.getD t22.toNat default).At.Kind==0) (.h (n_,t13,t14,t15,t20,t21,(IntKind.i64.wrap (t22+1)),()) ()) (.bn (zCH zn (n_.toNat +Int.toNat 0+t13.length+t14.toNat +t15.toNat +t20.length+t21.toNat +t22.toNat +(t20.getD t22.toNat default).At.Ag.length+(Int.ofNat (t20.getD t22.toNat default).At.Ag.length).toNat +Int.toNat 0+(t20.getD t22.toNat default).At.Ag.length+(t20.getD t22.toNat default).At.Items.length+1) n_ 0 t13 t14 t15 t20 t21 t22 (t20.getD t22.toNat default).At.Ag (Int.ofNat (t20.getD t22.toNat default).At.Ag.length) 0 (FO.mk (At.mk (t20.getD t22.toNat default).At.Kind (t20.getD t22.toNat default).At.Row (t20.getD t22.toNat default).At.Ag (t20.getD t22.toNat default).At.Func (t20.getD t22.toNat default).At.Items (t20.getD t22.toNat default).At.Op (t20.getD t22.toNat default).At.Bd) (t20.getD t22.toNat default).Exp)) λr5=>.bn (zCN zn (r5.1.toNat +r5.2.1.toNat +r5.2.2.1.length+r5.2.2.2.1.toNat +r5.2.2.2.2.1.toNat +r5.2.2.2.2.2.1.length+r5.2.2.2.2.2.2.1.toNat +r5.2.2.2.2.2.2.2.1.toNat +r5.2.2.2.2.2.2.2.2.At.Items.length+(Int.ofNat r5.2.2.2.2.2.2.2.2.At.Items.length).toNat +Int.toNat 0+1) r5.1 r5.2.1 r5.2.2.1 r5.2.2.2.1 r5.2.2.2.2.1 r5.2.2.2.2.2.1 r5.2.2.2.2.2.2.1 r5.2.2.2.2.2.2.2.1 r5.2.2.2.2.2.2.2.2.At.Items (Int.ofNat r5.2.2.2.2.2.2.2.2.At.Items.length) 0) λr4=>.h ((if IntKind.i64.wrap (1+r4.2.1)>r4.1 then IntKind.i64.wrap (1+r4.2.1) else r4.1),(r4.2.2.1),(r4.2.2.2.1),(r4.2.2.2.2.1),(r4.2.2.2.2.2.1),(r4.2.2.2.2.2.2.1),(IntKind.i64.wrap (r4.2.2.2.2.2.2.2+1)),()) ())) .d) (.k (n_,t13,t14,t15))
def ztP (zn:yC->Bool×Int) (x:zpo) (y:Unit):=zjO zn x.1 x.2.1 x.2.2.1 x.2.2.2.1 x.2.2.2.2.1 x.2.2.2.2.2.1 x.2.2.2.2.2.2.1
def zDZ (zn:yC->Bool×Int) (n:Nat) (n_:Int) (t13:yC) (t14:Int) (t15:Int) (t20:yD) (t21:Int) (t22:Int):=zC (ztP zn) default n (n_,t13,t14,t15,t20,t21,t22,()) ()
def zPU (r:zGg):LTree ty:=.done (.exit 2) [.lit (.int .i64 r.1),.sl 28 r.2.1,.lit (.int .i64 r.2.2.1),.lit (.int .i64 r.2.2.2)] []
def zQp:LL ty zpo:=za zj (za (lSl 28) (za zj (za zj (za (lSl 69) (za zj (za zj zl))))))
def zjX (zn:yC->Bool×Int) (n_:Int) (t13:yC) (t14:Int) (t15:Int):Wy zpt Unit (Int):=.i (decide (t15<t14)) (.i (decide (0<=t15)&&decide (t15<Int.ofNat t13.length)) (.bn (zDZ zn (n_.toNat +t13.length+t14.toNat +t15.toNat +(t13.getD t15.toNat default).Fs.length+(Int.ofNat (t13.getD t15.toNat default).Fs.length).toNat +Int.toNat 0+1) n_ t13 t14 t15 (t13.getD t15.toNat default).Fs (Int.ofNat (t13.getD t15.toNat default).Fs.length) 0) λr8=>.h ((r8.1),(r8.2.1),(r8.2.2.1),(IntKind.i64.wrap (r8.2.2.2+1)),()) ()) .d) (.k n_)
def ztK (zn:yC->Bool×Int) (x:zpt) (y:Unit):=zjX zn x.1 x.2.1 x.2.2.1 x.2.2.2.1
def zDO (zn:yC->Bool×Int) (n:Nat) (n_:Int) (t13:yC) (t14:Int) (t15:Int):=zC (ztK zn) default n (n_,t13,t14,t15,()) ()
def zQx:LL ty zpt:=za zj (za (lSl 28) (za zj (za zj zl)))
def zN0 (x:zpG) (y:Fc×Unit):Nat:=(Int.toNat x.1+Int.toNat x.2.2.1+x.2.2.2.1.length+Int.toNat x.2.2.2.2.1+Int.toNat x.2.2.2.2.2.1+x.2.2.2.2.2.2.1.length+Int.toNat x.2.2.2.2.2.2.2.1+Int.toNat x.2.2.2.2.2.2.2.2.1+x.2.2.2.2.2.2.2.2.2.1.length+Int.toNat x.2.2.2.2.2.2.2.2.2.2.1+Int.toNat x.2.2.2.2.2.2.2.2.2.2.2.1+y.1.At.Ag.length+y.1.At.Items.length+1)
def zND (x:zpB) (y:Unit):Nat:=(Int.toNat x.1+Int.toNat x.2.1+x.2.2.1.length+Int.toNat x.2.2.2.1+Int.toNat x.2.2.2.2.1+x.2.2.2.2.2.1.length+Int.toNat x.2.2.2.2.2.2.1+Int.toNat x.2.2.2.2.2.2.2.1+x.2.2.2.2.2.2.2.2.1.length+Int.toNat x.2.2.2.2.2.2.2.2.2.1+Int.toNat x.2.2.2.2.2.2.2.2.2.2.1+1)
def zOM (x:zpo) (y:Unit):Nat:=(Int.toNat x.1+x.2.1.length+Int.toNat x.2.2.1+Int.toNat x.2.2.2.1+x.2.2.2.2.1.length+Int.toNat x.2.2.2.2.2.1+Int.toNat x.2.2.2.2.2.2.1+1)
def zPh (x:zpt) (y:Unit):Nat:=(Int.toNat x.1+x.2.1.length+Int.toNat x.2.2.1+Int.toNat x.2.2.2.1+1)
def zjV (zn:yC->Bool×Int):=zb3 base 64 [(114,(zqw zn))] [] [(3,(kpL [3,13,14,15])),(6,(kpL [3,13,14,15,20,21,22])),(11,(kpL [3,7,8,13,14,15,20,21,22,32,33,34])),(16,(kpL [3,8,13,14,15,20,21,22,45,46,47]))] [(3,1,(kpL [3])),(6,3,(kpL [3,13,14,15])),(11,5,(kpL [3,7,8,13,14,15,20,21,22])),(16,7,(kpL [3,8,13,14,15,20,21,22]))] [(11,spW zOa zTU (zsP zn) default zNu zN0),(16,spW zPH zZe (zsk zn) default zM3 zND),(6,spW zQp zZe (ztP zn) default zPU zOM),(3,spW zQx zZe (ztK zn) default zUS zPh)] []
theorem zNl (zn:yC->Bool×Int):zF (zjV zn) (lp (body f114) 2):=zq (id:=11) (hl:=rfl)
theorem zNC (zn:yC->Bool×Int):zF (zjV zn) (lp (body f114) 3):=zq (id:=16) (hl:=rfl)
theorem zOn (zn:yC->Bool×Int):zF (zjV zn) (lp (body f114) 1):=zq (id:=6) (hl:=rfl)
theorem zOl (zn:yC->Bool×Int):zF (zjV zn) (lp (body f114) 0):=zq (id:=3) (hl:=rfl)
def zE4 (zn:yC->Bool×Int) (a:yC):Wy0 (Int):=.bn (zDO zn (Int.toNat 0+a.length+(Int.ofNat a.length).toNat +Int.toNat 0+1) 0 a (Int.ofNat a.length) 0) λr10=>.k r10
def zq3 (zn:yC->Bool×Int) (a:yC):=(zE4 zn a).fin default
theorem zLS (zn:yC->Bool×Int) (zS2:SdP 114 (zqw zn)):SdP 114 (zqw (zq3 zn)):=
 sT (cx':=(zjV zn)) (zk ⟨zS2,trivial⟩) call114 func114 (lOK (aC (zOl zn) (aC (zOn zn) (aC (zNl zn) (aC (zNC zn) aN)))))
def z3n:Nat->(yC->Bool×Int)
 | 0=>λ_=>(false,default)
 | n+1=>zq3 (z3n n)
def zg4 (n:Nat):yC->Bool×Int:=z3n n
theorem zQl (n:Nat):zg4 (n+1)=zq3 (zg4 n):=rfl
theorem zXu:∀ n,SdP 114 (zqw (zg4 n))
 | 0=>zbc call114 (λ_=>rfl)
 | n+1=>by
  have ih:=zXu n;exact zLS _ (ih)
def zCG:yC->Bool×Int:=zg4 1000
def zDT:Ab.Spec ty:=zqw zCG
theorem zOC:SdP 114 zDT:=(zXu 1000)
def zLG:=zbt base 13 []
def zBn (f:Fc):Wy0 (Bool):=.i (decide (f.Exp>64)) (.k true) (.k (decide (Int.ofNat f.At.Items.length>1024)))
def zgS (f:Fc):=(zBn f).fin default
def zNw:AL base (Fc×Unit):=ze (zf (zcV 69)) zu
def zjG:=zi zNw λx=>((zgS x.1).1,zYt (zgS x.1).2)
theorem zm2:SdP 117 zjG:=
 sT (cx':=zLG) (zk trivial) call117 func117 (lOK aN)
abbrev zeN:=yD×Unit×Int×Int×Unit
def zkp (s:yD) (t7:Int) (t8:Int):Wy zeN Unit (Int⊕Unit):=.i (decide (t8<t7)) (.i (decide (0<=t8)&&decide (t8<Int.ofNat s.length)) (.bn (zgS (FO.mk (At.mk (s.getD t8.toNat default).At.Kind (s.getD t8.toNat default).At.Row (s.getD t8.toNat default).At.Ag (s.getD t8.toNat default).At.Func (s.getD t8.toNat default).At.Items (s.getD t8.toNat default).At.Op (s.getD t8.toNat default).At.Bd) (s.getD t8.toNat default).Exp)) λr0=>.i (r0) (.k (.inl t8)) (.h (s,(),t7,(IntKind.i64.wrap (t8+1)),()) ())) .d) (.k (.inr ()))
def zdM (x:zeN) (y:Unit):=zkp x.1 x.2.2.1 x.2.2.2.1
def zkf (n:Nat) (s:yD) (t7:Int) (t8:Int):=zC (zdM) (.inl default) n (s,(),t7,t8,()) ()
def ztL (r:Int⊕Unit):LTree ty:=.ite (isL r) (.done .ret [.lit (.int .i64 (getL r))] []) (.done (.exit 0) [] [])
def zuM:LL ty zeN:=za (lSl 69) (za (lFn 117 (zl)) (za zj (za zj zl)))
def zuk (x:zeN) (y:Unit):Nat:=(x.1.length+Int.toNat x.2.2.1+Int.toNat x.2.2.2.1+1)
def zku:=zb3 base 19 [(117,zjG)] [] [(2,(kpL [0,1,7,8]))] [(2,1,[]),(2,0,(kpL [4]))] [(2,spW zuM zZe (zdM) (.inl default) ztL zuk)] []
theorem ztT:zF zku (lp (body f103) 0):=zq (id:=2) (hl:=rfl)
def zkR (s:yD):Wy0 (Int):=.bn (zkf (s.length+(Int.ofNat s.length).toNat +Int.toNat 0+1) s (Int.ofNat s.length) 0) λr2=>.i (isL r2) (.k (getL r2)) (.k (-1:Int))
def zc7 (s:yD):=(zkR s).fin default
def zvF:AL base (yD×Unit×Unit):=ze (zf (vSl 69)) (ze (zf (vFn 117 zb7)) zu)
def zjm:=zi zvF λx=>((zc7 x.1).1,z2L (zc7 x.1).2)
theorem zsF:SdP 103 zjm:=
 sT (cx':=zku) (zk ⟨zm2,trivial⟩) call103 func103 (lOK (aC ztT aN))
def zsH:=zbt base 9 [(103,zjm),(117,zjG)]
def zjl (s:yD):Wy0 (Bool):=.bn (zc7 s) λr0=>.k (decide (r0≥0))
def zcK (s:yD):=(zjl s).fin default
def zh0:=zi zvF λx=>((zcK x.1).1,zYt (zcK x.1).2)
theorem zqx:SdP 49 zh0:=
 sT (cx':=zsH) (zk ⟨zsF,zm2,trivial⟩) call49 func49 (lOK aN)
def zQN:=zbt base 12 [(49,zh0),(117,zjG)]
def zEO (t:Term):Wy0 (Bool):=.i (decide (Int.ofNat t.Fs.length>64)) (.k true) (.bn (zcK t.Fs) λr0=>.k r0)
def zmG (t:Term):=(zEO t).fin default
def zSP:AL base (Term×Unit):=ze (zf (zcV 28)) zu
def zlK:=zi zSP λx=>((zmG x.1).1,zYt (zmG x.1).2)
theorem zpS:SdP 116 zlK:=
 sT (cx':=zQN) (zk ⟨zqx,zm2,trivial⟩) call116 func116 (lOK aN)
abbrev zez:=yC×Unit×Int×Int×Unit
def ztD (s:yC) (t7:Int) (t8:Int):Wy zez Unit (Int⊕Unit):=.i (decide (t8<t7)) (.i (decide (0<=t8)&&decide (t8<Int.ofNat s.length)) (.bn (zmG (s.getD t8.toNat default)) λr0=>.i (r0) (.k (.inl t8)) (.h (s,(),t7,(IntKind.i64.wrap (t8+1)),()) ())) .d) (.k (.inr ()))
def zjU (x:zez) (y:Unit):=ztD x.1 x.2.2.1 x.2.2.2.1
def zt6 (n:Nat) (s:yC) (t7:Int) (t8:Int):=zC (zjU) (.inl default) n (s,(),t7,t8,()) ()
def ztJ:LL ty zez:=za (lSl 28) (za (lFn 116 (zl)) (za zj (za zj zl)))
def zty (x:zez) (y:Unit):Nat:=(x.1.length+Int.toNat x.2.2.1+Int.toNat x.2.2.2.1+1)
def zj5:=zb3 base 19 [(116,zlK)] [] [(2,(kpL [0,1,7,8]))] [(2,1,[]),(2,0,(kpL [4]))] [(2,spW ztJ zZe (zjU) (.inl default) ztL zty)] []
theorem ztj:zF zj5 (lp (body f113) 0):=zq (id:=2) (hl:=rfl)
def zuO (s:yC):Wy0 (Int):=.bn (zt6 (s.length+(Int.ofNat s.length).toNat +Int.toNat 0+1) s (Int.ofNat s.length) 0) λr2=>.i (isL r2) (.k (getL r2)) (.k (-1:Int))
def zeg (s:yC):=(zuO s).fin default
def zuw:AL base (yC×Unit×Unit):=ze (zf (vSl 28)) (ze (zf (vFn 116 zb7)) zu)
def ziD:=zi zuw λx=>((zeg x.1).1,z2L (zeg x.1).2)
theorem zrS:SdP 113 ziD:=
 sT (cx':=zj5) (zk ⟨zpS,trivial⟩) call113 func113 (lOK (aC ztj aN))
def zrI:=zbt base 9 [(113,ziD),(116,zlK)]
def ziU (s:yC):Wy0 (Bool):=.bn (zeg s) λr0=>.k (decide (r0≥0))
def zcE (s:yC):=(ziU s).fin default
def zhK:=zi zuw λx=>((zcE x.1).1,zYt (zcE x.1).2)
theorem zpJ:SdP 59 zhK:=
 sT (cx':=zrI) (zk ⟨zrS,zpS,trivial⟩) call59 func59 (lOK aN)
def zVk:=zbt base 19 [(59,zhK),(114,zDT),(115,zHb),(116,zlK)]
def zIn (a:yC):Wy0 (Bool):=.i (decide (Int.ofNat a.length>512)) (.k false) (.bn (zCG a) λr2=>.i (decide (r2>8)) (.k false) (.bn (zGD a) λr1=>.i (decide (r1>4096)) (.k false) (.bn (zcE a) λr0=>.k (!r0))))
def zmL (a:yC):=(zIn a).fin default
def zvX:=zi zZJ λx=>((zmL x.1).1,zYt (zmL x.1).2)
theorem zDX:SdP 62 zvX:=
 sT (cx':=zVk) (zk ⟨zpJ,zOC,zUE,zpS,trivial⟩) call62 func62 (lOK aN)
abbrev zsY:=yC×Unit×yC×Int×Int×yD×Int×Int×Unit
abbrev zIH:=Bool⊕(yC×yC×Int×Int)
abbrev zsZ:=yC×yC×Int×Int×Unit
def zlk (zH:At->Bool×Bool) (a:yC) (t10:yC) (t11:Int) (t12:Int) (t40:yD) (t41:Int) (t42:Int) (t:Term):Wy zsY (Term×Unit) zIH:=.i (decide (t42<t41)) (.i (decide (0<=t42)&&decide (t42<Int.ofNat t40.length)) (.i (decide ((t40.getD t42.toNat default).Exp<1)) (.k (.inl false)) (.bn (zgi (At.mk (t40.getD t42.toNat default).At.Kind (t40.getD t42.toNat default).At.Row (t40.getD t42.toNat default).At.Ag (t40.getD t42.toNat default).At.Func (t40.getD t42.toNat default).At.Items (t40.getD t42.toNat default).At.Op (t40.getD t42.toNat default).At.Bd)) λr6=>.i (r6) (.i ((t40.getD t42.toNat default).Exp != 1) (.k (.inl false)) (.i (decide (t42>0)) (.i (decide (0<=IntKind.i64.wrap (t42 - 1))&&decide (IntKind.i64.wrap (t42 - 1)<Int.ofNat t.Fs.length)) (.bn (zjY (At.mk (t.Fs.getD (IntKind.i64.wrap (t42 - 1)).toNat default).At.Kind (t.Fs.getD (IntKind.i64.wrap (t42 - 1)).toNat default).At.Row (t.Fs.getD (IntKind.i64.wrap (t42 - 1)).toNat default).At.Ag (t.Fs.getD (IntKind.i64.wrap (t42 - 1)).toNat default).At.Func (t.Fs.getD (IntKind.i64.wrap (t42 - 1)).toNat default).At.Items (t.Fs.getD (IntKind.i64.wrap (t42 - 1)).toNat default).At.Op (t.Fs.getD (IntKind.i64.wrap (t42 - 1)).toNat default).At.Bd) (At.mk (t40.getD t42.toNat default).At.Kind (t40.getD t42.toNat default).At.Row (t40.getD t42.toNat default).At.Ag (t40.getD t42.toNat default).At.Func (t40.getD t42.toNat default).At.Items (t40.getD t42.toNat default).At.Op (t40.getD t42.toNat default).At.Bd)) λr1=>.i (decide (r1≥0)) (.k (.inl false)) (.bn (zH (At.mk (t40.getD t42.toNat default).At.Kind (t40.getD t42.toNat default).At.Row (t40.getD t42.toNat default).At.Ag (t40.getD t42.toNat default).At.Func (t40.getD t42.toNat default).At.Items (t40.getD t42.toNat default).At.Op (t40.getD t42.toNat default).At.Bd)) λr0=>.i (!r0) (.k (.inl false)) (.h (a,(),t10,t11,t12,t40,t41,(IntKind.i64.wrap (t42+1)),()) (t,())))) .d) (.bn (zH (At.mk (t40.getD t42.toNat default).At.Kind (t40.getD t42.toNat default).At.Row (t40.getD t42.toNat default).At.Ag (t40.getD t42.toNat default).At.Func (t40.getD t42.toNat default).At.Items (t40.getD t42.toNat default).At.Op (t40.getD t42.toNat default).At.Bd)) λr2=>.i (!r2) (.k (.inl false)) (.h (a,(),t10,t11,t12,t40,t41,(IntKind.i64.wrap (t42+1)),()) (t,()))))) (.i (decide (t42>0)) (.i (decide (0<=IntKind.i64.wrap (t42 - 1))&&decide (IntKind.i64.wrap (t42 - 1)<Int.ofNat t.Fs.length)) (.bn (zjY (At.mk (t.Fs.getD (IntKind.i64.wrap (t42 - 1)).toNat default).At.Kind (t.Fs.getD (IntKind.i64.wrap (t42 - 1)).toNat default).At.Row (t.Fs.getD (IntKind.i64.wrap (t42 - 1)).toNat default).At.Ag (t.Fs.getD (IntKind.i64.wrap (t42 - 1)).toNat default).At.Func (t.Fs.getD (IntKind.i64.wrap (t42 - 1)).toNat default).At.Items (t.Fs.getD (IntKind.i64.wrap (t42 - 1)).toNat default).At.Op (t.Fs.getD (IntKind.i64.wrap (t42 - 1)).toNat default).At.Bd) (At.mk (t40.getD t42.toNat default).At.Kind (t40.getD t42.toNat default).At.Row (t40.getD t42.toNat default).At.Ag (t40.getD t42.toNat default).At.Func (t40.getD t42.toNat default).At.Items (t40.getD t42.toNat default).At.Op (t40.getD t42.toNat default).At.Bd)) λr4=>.i (decide (r4≥0)) (.k (.inl false)) (.bn (zH (At.mk (t40.getD t42.toNat default).At.Kind (t40.getD t42.toNat default).At.Row (t40.getD t42.toNat default).At.Ag (t40.getD t42.toNat default).At.Func (t40.getD t42.toNat default).At.Items (t40.getD t42.toNat default).At.Op (t40.getD t42.toNat default).At.Bd)) λr3=>.i (!r3) (.k (.inl false)) (.h (a,(),t10,t11,t12,t40,t41,(IntKind.i64.wrap (t42+1)),()) (t,())))) .d) (.bn (zH (At.mk (t40.getD t42.toNat default).At.Kind (t40.getD t42.toNat default).At.Row (t40.getD t42.toNat default).At.Ag (t40.getD t42.toNat default).At.Func (t40.getD t42.toNat default).At.Items (t40.getD t42.toNat default).At.Op (t40.getD t42.toNat default).At.Bd)) λr5=>.i (!r5) (.k (.inl false)) (.h (a,(),t10,t11,t12,t40,t41,(IntKind.i64.wrap (t42+1)),()) (t,())))))) .d) (.k (.inr (a,t10,t11,t12)))
def zxk (zH:At->Bool×Bool) (x:zsY) (y:Term×Unit):=zlk zH x.1 x.2.2.1 x.2.2.2.1 x.2.2.2.2.1 x.2.2.2.2.2.1 x.2.2.2.2.2.2.1 x.2.2.2.2.2.2.2.1 y.1
def zw4 (zH:At->Bool×Bool) (n:Nat) (a:yC) (t10:yC) (t11:Int) (t12:Int) (t40:yD) (t41:Int) (t42:Int) (t:Term):=zC (zxk zH) (.inl default) n (a,(),t10,t11,t12,t40,t41,t42,()) (t,())
def zSR (r:zIH):LTree ty:=.ite (isL r) (.done .ret [.lit (.bool (getL r))] []) (.done (.exit 2) [.sl 28 (getR r).1,.sl 28 (getR r).2.1,.lit (.int .i64 (getR r).2.2.1),.lit (.int .i64 (getR r).2.2.2)] [])
def zUL:LL ty zsY:=za (lSl 28) (za (zgc 340 0) (za (lSl 28) (za zj (za zj (za (lSl 69) (za zj (za zj zl)))))))
def zUD:BL ty (Term×Unit):=zj7 (zh1 (λx=>(⟨x.1,x.2.1⟩:Term)) (λx=>(x.Cf,x.Fs,())) (λ_=>rfl) (za (zT .i64) (za (lSl 69) zl))) false (zbe)
def zlp (zH:At->Bool×Bool) (a:yC) (t10:yC) (t11:Int) (t12:Int):Wy zsZ Unit (Bool⊕Unit):=.i (decide (t12<t11)) (.i (decide (0<=t12)&&decide (t12<Int.ofNat t10.length)) (.i (decide ((t10.getD t12.toNat default).Cf<1)) (.k (.inl false)) (.i (decide ((t10.getD t12.toNat default).Cf>1152921504606846976)) (.k (.inl false)) (.i (decide (t12>0)) (.i (decide (0<=IntKind.i64.wrap (t12 - 1))&&decide (IntKind.i64.wrap (t12 - 1)<Int.ofNat a.length)) (.bn (zcb (a.getD (IntKind.i64.wrap (t12 - 1)).toNat default) (t10.getD t12.toNat default)) λr15=>.i (decide (r15≥0)) (.k (.inl false)) (.bn (zw4 zH (a.length+t10.length+t11.toNat +t12.toNat +(t10.getD t12.toNat default).Fs.length+(Int.ofNat (t10.getD t12.toNat default).Fs.length).toNat +Int.toNat 0+(t10.getD t12.toNat default).Fs.length+1) a t10 t11 t12 (t10.getD t12.toNat default).Fs (Int.ofNat (t10.getD t12.toNat default).Fs.length) 0 (t10.getD t12.toNat default)) λr14=>.i (isL r14) (.k (.inl (getL r14))) (.h ((getR r14).1,(getR r14).2.1,(getR r14).2.2.1,(IntKind.i64.wrap ((getR r14).2.2.2+1)),()) ()))) .d) (.bn (zw4 zH (a.length+t10.length+t11.toNat +t12.toNat +(t10.getD t12.toNat default).Fs.length+(Int.ofNat (t10.getD t12.toNat default).Fs.length).toNat +Int.toNat 0+(t10.getD t12.toNat default).Fs.length+1) a t10 t11 t12 (t10.getD t12.toNat default).Fs (Int.ofNat (t10.getD t12.toNat default).Fs.length) 0 (t10.getD t12.toNat default)) λr16=>.i (isL r16) (.k (.inl (getL r16))) (.h ((getR r16).1,(getR r16).2.1,(getR r16).2.2.1,(IntKind.i64.wrap ((getR r16).2.2.2+1)),()) ()))))) .d) (.k (.inr ()))
def zxx (zH:At->Bool×Bool) (x:zsZ) (y:Unit):=zlp zH x.1 x.2.1 x.2.2.1 x.2.2.2.1
def zFB (zH:At->Bool×Bool) (n:Nat) (a:yC) (t10:yC) (t11:Int) (t12:Int):=zC (zxx zH) (.inl default) n (a,t10,t11,t12,()) ()
def zSm (r:Bool⊕Unit):LTree ty:=.ite (isL r) (.done .ret [.lit (.bool (getL r))] []) (.done (.exit 0) [] [])
def zUm:LL ty zsZ:=za (lSl 28) (za (lSl 28) (za zj (za zj zl)))
def zR5 (x:zsY) (y:Term×Unit):Nat:=(x.1.length+x.2.2.1.length+Int.toNat x.2.2.2.1+Int.toNat x.2.2.2.2.1+x.2.2.2.2.2.1.length+Int.toNat x.2.2.2.2.2.2.1+Int.toNat x.2.2.2.2.2.2.2.1+y.1.Fs.length+1)
def zRY (x:zsZ) (y:Unit):Nat:=(x.1.length+x.2.1.length+Int.toNat x.2.2.1+Int.toNat x.2.2.2.1+1)
def zxF (zH:At->Bool×Bool):=zb3 base 85 [(62,zvX),(63,zju),(64,zk0),(65,zn2),(66,(zoa zH))] [] [(4,(kpL [0,10,11,12])),(9,(kpL [0,4,10,11,12,40,41,42]))] [(4,1,[]),(4,0,(kpL [2])),(9,3,(kpL [0,10,11,12])),(9,0,(kpL [2]))] [(9,spW zUL zUD (zxk zH) (.inl default) zSR zR5),(4,spW zUm zZe (zxx zH) (.inl default) zSm zRY)] []
theorem zRP (zH:At->Bool×Bool):zF (zxF zH) (lp (body f20) 1):=zq (id:=9) (hl:=rfl)
theorem zSg (zH:At->Bool×Bool):zF (zxF zH) (lp (body f20) 0):=zq (id:=4) (hl:=rfl)
def zHf (zH:At->Bool×Bool) (a:yC):Wy0 (Bool):=.bn (zmL a) λr21=>.i (!r21) (.k false) (.bn (zFB zH (a.length+a.length+(Int.ofNat a.length).toNat +Int.toNat 0+1) a a (Int.ofNat a.length) 0) λr20=>.i (isL r20) (.k (getL r20)) (.k true))
def zoW (zH:At->Bool×Bool) (a:yC):=(zHf zH a).fin default
theorem zOL (zH:At->Bool×Bool) (zO4:SdP 66 (zoa zH)):SdP 20 (ziH (zoW zH)):=
 sT (cx':=(zxF zH)) (zk ⟨zDX,zm8,zpa,zwb,zO4,trivial⟩) call20 func20 (lOK (aC (zSg zH) (aC (zRP zH) aN)))
def zYg:=zbt base 9 [(67,zDS)]
def zKr (a:yC) (b:yC):Wy0 (Bool):=.bn (zCY a b) λr0=>.k (r0==0)
def ze7 (a:yC) (b:yC):=(zKr a b).fin default
def zii:=zi z6l λx=>((ze7 x.1 x.2.1).1,zYt (ze7 x.1 x.2.1).2)
theorem zkI:SdP 21 zii:=
 sT (cx':=zYg) (zk ⟨zPs,trivial⟩) call21 func21 (lOK aN)
def z74:=zbt base 36 []
def zW9 (v:Value):Wy0 (Bool):=.i (v.Kind==0) (.k (v.Text.toList==(ByteArray.mk #[]).toList)) (.i (v.Kind==1) (.i (v.Int==0) (.k (decide (Int.ofNat v.Text.size<=255))) (.k false)) (.i (v.Kind==2) (.i (v.Int==0) (.k (v.Text.toList==(ByteArray.mk #[]).toList)) (.i (v.Int==1) (.k (v.Text.toList==(ByteArray.mk #[]).toList)) (.k false))) (.k false)))
def zvL (v:Value):=(zW9 v).fin default
def zbad:AL base (Value×Unit):=ze (zf (zcV 65)) zu
def zzH:=zi zbad λx=>((zvL x.1).1,zYt (zvL x.1).2)
theorem zEp:SdP 164 zzH:=
 sT (cx':=z74) (zk trivial) call164 func164 (lOK aN)
def zPm:=zbt base 27 [(164,zzH)]
def zD7 (w:Wd) (p1:Value) (p2:Int):Wy0 (Bool):=.bn (zvL w.Value) λr0=>.i (!r0) (.k true) (.i (w.Value.Kind != p1.Kind) (.k true) (.i (p2==0) (.k (w.Value.Int != 1)) (.k false)))
def zil (w:Wd) (p1:Value) (p2:Int):=(zD7 w p1 p2).fin default
def zQB:AL base (Wd×Value×(Int×Unit)×Unit):=ze (zf (zcV 100)) (ze (zf (zBc 65)) (ze (zf (zvI (zdP zfl zb7))) zu))
def zkZ:=zi zQB λx=>((zil x.1 x.2.1 x.2.2.1.1).1,zYt (zil x.1 x.2.1 x.2.2.1.1).2)
theorem zoY:SdP 165 zkZ:=
 sT (cx':=zPm) (zk ⟨zEp,trivial⟩) call165 func165 (lOK aN)
abbrev zd5:=yE×(Value×(Int×Unit)×Unit)×Int×Int×Unit
def zry (s:yE) (f_0:Value) (f_1:Int) (t7:Int) (t8:Int):Wy zd5 Unit (Int⊕Unit):=.i (decide (t8<t7)) (.i (decide (0<=t8)&&decide (t8<Int.ofNat s.length)) (.bn (zil (s.getD t8.toNat default) f_0 f_1) λr0=>.i (r0) (.k (.inl t8)) (.h (s,(f_0,(f_1,()),()),t7,(IntKind.i64.wrap (t8+1)),()) ())) .d) (.k (.inr ()))
def zid (x:zd5) (y:Unit):=zry x.1 x.2.1.1 x.2.1.2.1.1 x.2.2.1 x.2.2.2.1
def zrP (n:Nat) (s:yE) (f_0:Value) (f_1:Int) (t7:Int) (t8:Int):=zC (zid) (.inl default) n (s,(f_0,(f_1,()),()),t7,t8,()) ()
def zrJ:LL ty zd5:=za (lSl 100) (za (lFn 165 (za (zoD (zh1 (λx=>(⟨x.1,x.2.1,x.2.2.1⟩:Value)) (λx=>(x.Kind,x.Int,x.Text,())) (λ_=>rfl) (za zj (za zj (za zsR zl)))) 0) (za (zoD (za zj zl) 0) zl))) (za zj (za zj zl)))
def zqG (x:zd5) (y:Unit):Nat:=(x.1.length+Int.toNat x.2.1.2.1.1+Int.toNat x.2.2.1+Int.toNat x.2.2.2.1+1)
def zir:=zb3 base 19 [(165,zkZ)] [] [(2,(kpL [0,1,7,8]))] [(2,1,[]),(2,0,(kpL [4]))] [(2,spW zrJ zZe (zid) (.inl default) ztL zqG)] []
theorem zq6:zF zir (lp (body f163) 0):=zq (id:=2) (hl:=rfl)
def zsm (s:yE) (f_0:Value) (f_1:Int):Wy0 (Int):=.bn (zrP (s.length+f_1.toNat +(Int.ofNat s.length).toNat +Int.toNat 0+1) s f_0 f_1 (Int.ofNat s.length) 0) λr2=>.i (isL r2) (.k (getL r2)) (.k (-1:Int))
def zdG (s:yE) (f_0:Value) (f_1:Int):=(zsm s f_0 f_1).fin default
def zr4:AL base (yE×(Value×(Int×Unit)×Unit)×Unit):=ze (zf (vSl 100)) (ze (zf (vFn 165 (zdP (zBc 65) (zdP (zvI (zdP zfl zb7)) zb7)))) zu)
def zhC:=zi zr4 λx=>((zdG x.1 x.2.1.1 x.2.1.2.1.1).1,z2L (zdG x.1 x.2.1.1 x.2.1.2.1.1).2)
theorem zpU:SdP 163 zhC:=
 sT (cx':=zir) (zk ⟨zoY,trivial⟩) call163 func163 (lOK (aC zq6 aN))
def zp3:=zbt base 9 [(163,zhC),(165,zkZ)]
def zhF (s:yE) (f_0:Value) (f_1:Int):Wy0 (Bool):=.bn (zdG s f_0 f_1) λr0=>.k (decide (r0≥0))
def zbE (s:yE) (f_0:Value) (f_1:Int):=(zhF s f_0 f_1).fin default
def zgK:=zi zr4 λx=>((zbE x.1 x.2.1.1 x.2.1.2.1.1).1,zYt (zbE x.1 x.2.1.1 x.2.1.2.1.1).2)
theorem zob:SdP 132 zgK:=
 sT (cx':=zp3) (zk ⟨zpU,zoY,trivial⟩) call132 func132 (lOK aN)
def zTt:=zbt base 43 [(132,zgK),(164,zzH),(165,zkZ)]
def zHc (fn:Int) (items:yE) (op:Int) (bound:Value):Wy0 (Bool):=.i (decide (fn<0)) (.k false) (.i (decide (fn>3)) (.k false) (.i (decide (op<5)) (.k false) (.i (decide (op>10)) (.k false) (.bn (zvL bound) λr3=>.i (!r3) (.k false) (.i (fn==0) (.i (bound.Kind != 0) (.k false) (.bn (zbE items bound fn) λr0=>.k (!r0))) (.i (fn==1) (.i (bound.Kind != 0) (.k false) (.bn (zbE items bound fn) λr1=>.k (!r1))) (.bn (zbE items bound fn) λr2=>.k (!r2))))))))
def zlf (fn:Int) (items:yE) (op:Int) (bound:Value):=(zHc fn items op bound).fin default
def zWE:AL base (Int×yE×Int×Value×Unit):=ze (zf zfl) (ze (zf (vSl 100)) (ze (zf zfl) (ze (zf (zcV 65)) zu)))
def ztU:=zi zWE λx=>((zlf x.1 x.2.1 x.2.2.1 x.2.2.2.1).1,zYt (zlf x.1 x.2.1 x.2.2.1 x.2.2.2.1).2)
theorem zDh:SdP 135 ztU:=
 sT (cx':=zTt) (zk ⟨zob,zEp,zoY,trivial⟩) call135 func135 (lOK aN)
def zJN:=zbt base 7 []
def zyA (t:Term):Wy0 (Bool):=.k (Int.ofNat t.Fs.length==0)
def zhZ (t:Term):=(zyA t).fin default
def zhX:=zi zSP λx=>((zhZ x.1).1,zYt (zhZ x.1).2)
theorem zlN:SdP 162 zhX:=
 sT (cx':=zJN) (zk trivial) call162 func162 (lOK aN)
abbrev zeF:=yC×Unit×Int×Int×Unit
def ztB (s:yC) (t7:Int) (t8:Int):Wy zeF Unit (Int⊕Unit):=.i (decide (t8<t7)) (.i (decide (0<=t8)&&decide (t8<Int.ofNat s.length)) (.i ((zhZ (s.getD t8.toNat default)).2) (.k (.inl t8)) (.h (s,(),t7,(IntKind.i64.wrap (t8+1)),()) ())) .d) (.k (.inr ()))
def zjR (x:zeF) (y:Unit):=ztB x.1 x.2.2.1 x.2.2.2.1
def zt3 (n:Nat) (s:yC) (t7:Int) (t8:Int):=zC (zjR) (.inl default) n (s,(),t7,t8,()) ()
def ztY:LL ty zeF:=za (lSl 28) (za (lFn 162 (zl)) (za zj (za zj zl)))
def zs8 (x:zeF) (y:Unit):Nat:=(x.1.length+Int.toNat x.2.2.1+Int.toNat x.2.2.2.1+1)
def zj2:=zb3 base 19 [(162,zhX)] [] [(2,(kpL [0,1,7,8]))] [(2,1,[]),(2,0,(kpL [4]))] [(2,spW ztY zZe (zjR) (.inl default) ztL zs8)] []
theorem ztt:zF zj2 (lp (body f113) 0):=zq (id:=2) (hl:=rfl)
def zve (s:yC):Wy0 (Int):=.bn (zt3 (s.length+(Int.ofNat s.length).toNat +Int.toNat 0+1) s (Int.ofNat s.length) 0) λr0=>.i (isL r0) (.k (getL r0)) (.k (-1:Int))
def zej (s:yC):=(zve s).fin default
def zuG:AL base (yC×Unit×Unit):=ze (zf (vSl 28)) (ze (zf (vFn 162 zb7)) zu)
def ziL:=zi zuG λx=>((zej x.1).1,z2L (zej x.1).2)
theorem zrD:SdP 113 ziL:=
 sT (cx':=zj2) (zk ⟨zlN,trivial⟩) call113 func113 (lOK (aC ztt aN))
def zrB:=zbt base 9 [(113,ziL),(162,zhX)]
def zi1 (s:yC):Wy0 (Bool):=.bn (zej s) λr0=>.k (decide (r0≥0))
def zdF (s:yC):=(zi1 s).fin default
def zhG:=zi zuG λx=>((zdF x.1).1,zYt (zdF x.1).2)
theorem zp0:SdP 59 zhG:=
 sT (cx':=zrB) (zk ⟨zrD,zlN,trivial⟩) call59 func59 (lOK aN)
def zNa:=zbt base 5 [(59,zhG),(162,zhX)]
def zDd (a:yC):Wy0 (Bool):=.bn (zdF a) λr0=>.k r0
def zfE (a:yC):=(zDd a).fin default
def zoV:=zi zZJ λx=>((zfE x.1).1,zYt (zfE x.1).2)
theorem zw3:SdP 131 zoV:=
 sT (cx':=zNa) (zk ⟨zp0,zlN,trivial⟩) call131 func131 (lOK aN)
def zOk:=zbt base 14 []
def zD0 (a:yC):Wy0 (Bool):=.i (Int.ofNat a.length==1) (.i (decide ((0:Int)<=(0:Int))&&decide (0<Int.ofNat a.length)) (.k (Int.ofNat (a.getD (Int.toNat 0) default).Fs.length==0)) .d) (.k false)
def zit (a:yC):=(zD0 a).fin default
def zpI:=zi zZJ λx=>((zit x.1).1,zYt (zit x.1).2)
theorem zyB:SdP 129 zpI:=
 sT (cx':=zOk) (zk trivial) call129 func129 (lOK aN)
def zWG:=zbt base 42 [(64,zk0)]
def zIt (a:yC):Wy0 (Bool):=.i (Int.ofNat a.length != 1) (.k false) (.i (decide ((0:Int)<=(0:Int))&&decide (0<Int.ofNat a.length)) (.i ((a.getD (Int.toNat 0) default).Cf != 1) (.k false) (.i (decide ((0:Int)<=(0:Int))&&decide (0<Int.ofNat a.length)) (.i (Int.ofNat (a.getD (Int.toNat 0) default).Fs.length != 1) (.k false) (.i (decide ((0:Int)<=(0:Int))&&decide (0<Int.ofNat a.length)) (.i (decide ((0:Int)<=(0:Int))&&decide (0<Int.ofNat (a.getD (Int.toNat 0) default).Fs.length)) (.i (((a.getD (Int.toNat 0) default).Fs.getD (Int.toNat 0) default).Exp==1) (.i (((a.getD (Int.toNat 0) default).Fs.getD (Int.toNat 0) default).At.Kind==2) (.k true) (.bn (zgi (At.mk ((a.getD (Int.toNat 0) default).Fs.getD (Int.toNat 0) default).At.Kind ((a.getD (Int.toNat 0) default).Fs.getD (Int.toNat 0) default).At.Row ((a.getD (Int.toNat 0) default).Fs.getD (Int.toNat 0) default).At.Ag ((a.getD (Int.toNat 0) default).Fs.getD (Int.toNat 0) default).At.Func ((a.getD (Int.toNat 0) default).Fs.getD (Int.toNat 0) default).At.Items ((a.getD (Int.toNat 0) default).Fs.getD (Int.toNat 0) default).At.Op ((a.getD (Int.toNat 0) default).Fs.getD (Int.toNat 0) default).At.Bd)) λr0=>.k r0)) (.k false)) .d) .d)) .d)) .d)
def zmI (a:yC):=(zIt a).fin default
def zvv:=zi zZJ λx=>((zmI x.1).1,zYt (zmI x.1).2)
theorem zD1:SdP 130 zvv:=
 sT (cx':=zWG) (zk ⟨zpa,trivial⟩) call130 func130 (lOK aN)
def z7p:=zbt base 11 []
def zUq (id:RowID):Wy0 (Bool):=.i (decide (id.Table≥1)) (.k (decide (id.Seq≥1))) (.k false)
def zsj (id:RowID):=(zUq id).fin default
def z8t:AL base (RowID×Unit):=ze (zf (zcV 49)) zu
def zwB:=zi z8t λx=>((zsj x.1).1,zYt (zsj x.1).2)
theorem zDg:SdP 128 zwB:=
 sT (cx':=z7p) (zk trivial) call128 func128 (lOK aN)
abbrev zft:=yE×Unit×Int×Unit
def zeY (x_:yE) (i:Int):Wy zft Unit (Bool⊕Unit):=.i (decide (i>0)) (.i (decide (0<=i)&&decide (i<Int.ofNat x_.length)) (.i (decide (0<=IntKind.i64.wrap (i - 1))&&decide (IntKind.i64.wrap (i - 1)<Int.ofNat x_.length)) (.bn (zbQ (x_.getD i.toNat default) (x_.getD (IntKind.i64.wrap (i - 1)).toNat default)) λr0=>.i (decide (r0<0)) (.k (.inl false)) (.h (x_,(),(IntKind.i64.wrap (i - 1)),()) ())) .d) .d) (.k (.inr ()))
def zis (x:zft) (y:Unit):=zeY x.1 x.2.2.1
def ze0 (n:Nat) (x_:yE) (i:Int):=zC (zis) (.inl default) n (x_,(),i,()) ()
def zrT:LL ty zft:=za (lSl 100) (za (lFn 124 (zl)) (za zj zl))
def zig:=zb3 base 25 [(124,zch)] [] [(2,(kpL [0,1,5]))] [(2,1,[]),(2,0,(kpL [4]))] [(2,spW zrT zZe (zis) (.inl default) zSm λx y=>(x.1.length+Int.toNat x.2.2.1+1))] []
theorem zqR:zF zig (lp (body f134) 0):=zq (id:=2) (hl:=rfl)
def ziN (x_:yE):Wy0 (Bool):=.bn (ze0 (x_.length+(IntKind.i64.wrap (Int.ofNat x_.length - 1)).toNat +1) x_ (IntKind.i64.wrap (Int.ofNat x_.length - 1))) λr2=>.i (isL r2) (.k (getL r2)) (.k true)
def zcC (x_:yE):=(ziN x_).fin default
def zsB:AL base (yE×Unit×Unit):=ze (zf (vSl 100)) (ze (zf (vFn 124 zb7)) zu)
def zhE:=zi zsB λx=>((zcC x.1).1,zYt (zcC x.1).2)
theorem zpL:SdP 134 zhE:=
 sT (cx':=zig) (zk ⟨zcq,trivial⟩) call134 func134 (lOK (aC zqR aN))
def zdc (zc:yA->Bool×Bool) (zh:yC->Bool×Bool) (zd:yE->Bool×Bool) (zg:Wd->Bool×Bool):=zbt base 149 [(21,zii),(124,zch),(126,(zcF zc)),(127,(ziH zh)),(128,zwB),(129,zpI),(130,zvv),(131,zoV),(132,(zc1 zd)),(133,(zdT zg)),(134,zhE),(135,ztU)]
def zcs (zc:yA->Bool×Bool) (zh:yC->Bool×Bool) (zd:yE->Bool×Bool) (zg:Wd->Bool×Bool) (x_:At):Wy0 (Bool):=.i (x_.Kind==0) (.i (x_.Func != 0) (.k false) (.i (Int.ofNat x_.Items.length != 0) (.k false) (.i (x_.Op != 0) (.k false) (.i (!(x_.Bd.Kind==0&&(x_.Bd.Int==0&&(x_.Bd.Text.toList==(ByteArray.mk #[]).toList&&true)))) (.k false) (.bn (zc x_.Ag) λr1=>.i (r1) (.k false) (.bn (zsj x_.Row) λr0=>.i (r0) (.k (Int.ofNat x_.Ag.length==0)) (.k false))))))) (.i (x_.Kind==1) (.i (x_.Func != 0) (.k false) (.i (Int.ofNat x_.Items.length != 0) (.k false) (.i (x_.Op != 0) (.k false) (.i (!(x_.Bd.Kind==0&&(x_.Bd.Int==0&&(x_.Bd.Text.toList==(ByteArray.mk #[]).toList&&true)))) (.k false) (.i (!(x_.Row.Table==0&&(x_.Row.Seq==0&&true))) (.k false) (.bn (zc x_.Ag) λr3=>.i (r3) (.k false) (.i (Int.ofNat x_.Ag.length==2) (.i (decide ((0:Int)<=(0:Int))&&decide (0<Int.ofNat x_.Ag.length)) (.i (decide ((0:Int)<=(1:Int))&&decide (1<Int.ofNat x_.Ag.length)) (.bn (ze7 (x_.Ag.getD (Int.toNat 0) default) (x_.Ag.getD (Int.toNat 1) default)) λr2=>.k (!r2)) .d) .d) (.k false)))))))) (.i (x_.Kind==2) (.i (x_.Func != 0) (.k false) (.i (Int.ofNat x_.Items.length != 0) (.k false) (.i (x_.Op != 0) (.k false) (.i (!(x_.Bd.Kind==0&&(x_.Bd.Int==0&&(x_.Bd.Text.toList==(ByteArray.mk #[]).toList&&true)))) (.k false) (.i (!(x_.Row.Table==0&&(x_.Row.Seq==0&&true))) (.k false) (.bn (zc x_.Ag) λr6=>.i (r6) (.k false) (.i (Int.ofNat x_.Ag.length==1) (.i (decide ((0:Int)<=(0:Int))&&decide (0<Int.ofNat x_.Ag.length)) (.bn (zit (x_.Ag.getD (Int.toNat 0) default)) λr5=>.i (!r5) (.i (decide ((0:Int)<=(0:Int))&&decide (0<Int.ofNat x_.Ag.length)) (.bn (zmI (x_.Ag.getD (Int.toNat 0) default)) λr4=>.k (!r4)) .d) (.k false)) .d) (.k false)))))))) (.i (x_.Kind==3) (.i (x_.Func != 0) (.k false) (.i (Int.ofNat x_.Items.length != 0) (.k false) (.i (x_.Op != 0) (.k false) (.i (!(x_.Bd.Kind==0&&(x_.Bd.Int==0&&(x_.Bd.Text.toList==(ByteArray.mk #[]).toList&&true)))) (.k false) (.i (!(x_.Row.Table==0&&(x_.Row.Seq==0&&true))) (.k false) (.bn (zc x_.Ag) λr8=>.i (r8) (.k false) (.i (Int.ofNat x_.Ag.length==1) (.i (decide ((0:Int)<=(0:Int))&&decide (0<Int.ofNat x_.Ag.length)) (.bn (zfE (x_.Ag.getD (Int.toNat 0) default)) λr7=>.k (!r7)) .d) (.k false)))))))) (.i (x_.Kind==4) (.i (!(x_.Row.Table==0&&(x_.Row.Seq==0&&true))) (.k false) (.bn (zc x_.Ag) λr12=>.i (r12) (.k false) (.bn (zd x_.Items) λr11=>.i (Int.ofNat x_.Ag.length==0) (.i (decide (Int.ofNat x_.Items.length>0)) (.i (!r11) (.bn (zcC x_.Items) λr10=>.i (r10) (.bn (zlf x_.Func x_.Items x_.Op x_.Bd) λr9=>.k r9) (.k false)) (.k false)) (.k false)) (.k false)))) (.i (x_.Func != 0) (.k false) (.i (Int.ofNat x_.Items.length != 0) (.k false) (.i (x_.Op != 0) (.k false) (.i (!(x_.Bd.Kind==0&&(x_.Bd.Int==0&&(x_.Bd.Text.toList==(ByteArray.mk #[]).toList&&true)))) (.k false) (.i (!(x_.Row.Table==0&&(x_.Row.Seq==0&&true))) (.k false) (.bn (zc x_.Ag) λr14=>.i (r14) (.k false) (.k false)))))))))))
def zkK (zc:yA->Bool×Bool) (zh:yC->Bool×Bool) (zd:yE->Bool×Bool) (zg:Wd->Bool×Bool) (x_:At):=(zcs zc zh zd zg x_).fin default
theorem zKb (zc:yA->Bool×Bool) (zh:yC->Bool×Bool) (zd:yE->Bool×Bool) (zg:Wd->Bool×Bool) (v_Row:RowID) (v_Args:yA) (v_Func:Int) (v_Items:yE) (v_Op:Int) (v_Bound:Value)  :zgW (zdc zc zh zd zg) f66 (body f66) ⟨[.pure],[]⟩ [.pure (.agg (base.enc 67 (At.mk (Int.ofNat 0) v_Row v_Args v_Func v_Items v_Op v_Bound)))]=(zcs zc zh zd zg (At.mk (Int.ofNat 0) v_Row v_Args v_Func v_Items v_Op v_Bound)).ev noH (λr=>some (zYt r)) none:=by kernel_rfl
theorem zKH (zc:yA->Bool×Bool) (zh:yC->Bool×Bool) (zd:yE->Bool×Bool) (zg:Wd->Bool×Bool) (v_Row:RowID) (v_Args:yA) (v_Func:Int) (v_Items:yE) (v_Op:Int) (v_Bound:Value)  :zgW (zdc zc zh zd zg) f66 (body f66) ⟨[.pure],[]⟩ [.pure (.agg (base.enc 67 (At.mk (Int.ofNat 1) v_Row v_Args v_Func v_Items v_Op v_Bound)))]=(zcs zc zh zd zg (At.mk (Int.ofNat 1) v_Row v_Args v_Func v_Items v_Op v_Bound)).ev noH (λr=>some (zYt r)) none:=by kernel_rfl
theorem zK8 (zc:yA->Bool×Bool) (zh:yC->Bool×Bool) (zd:yE->Bool×Bool) (zg:Wd->Bool×Bool) (v_Row:RowID) (v_Args:yA) (v_Func:Int) (v_Items:yE) (v_Op:Int) (v_Bound:Value)  :zgW (zdc zc zh zd zg) f66 (body f66) ⟨[.pure],[]⟩ [.pure (.agg (base.enc 67 (At.mk (Int.ofNat 2) v_Row v_Args v_Func v_Items v_Op v_Bound)))]=(zcs zc zh zd zg (At.mk (Int.ofNat 2) v_Row v_Args v_Func v_Items v_Op v_Bound)).ev noH (λr=>some (zYt r)) none:=by kernel_rfl
theorem zJ5 (zc:yA->Bool×Bool) (zh:yC->Bool×Bool) (zd:yE->Bool×Bool) (zg:Wd->Bool×Bool) (v_Row:RowID) (v_Args:yA) (v_Func:Int) (v_Items:yE) (v_Op:Int) (v_Bound:Value)  :zgW (zdc zc zh zd zg) f66 (body f66) ⟨[.pure],[]⟩ [.pure (.agg (base.enc 67 (At.mk (Int.ofNat 3) v_Row v_Args v_Func v_Items v_Op v_Bound)))]=(zcs zc zh zd zg (At.mk (Int.ofNat 3) v_Row v_Args v_Func v_Items v_Op v_Bound)).ev noH (λr=>some (zYt r)) none:=by kernel_rfl
theorem zKt (zc:yA->Bool×Bool) (zh:yC->Bool×Bool) (zd:yE->Bool×Bool) (zg:Wd->Bool×Bool) (v_Row:RowID) (v_Args:yA) (v_Func:Int) (v_Items:yE) (v_Op:Int) (v_Bound:Value)  :zgW (zdc zc zh zd zg) f66 (body f66) ⟨[.pure],[]⟩ [.pure (.agg (base.enc 67 (At.mk (Int.ofNat 4) v_Row v_Args v_Func v_Items v_Op v_Bound)))]=(zcs zc zh zd zg (At.mk (Int.ofNat 4) v_Row v_Args v_Func v_Items v_Op v_Bound)).ev noH (λr=>some (zYt r)) none:=by kernel_rfl
theorem zLt (zc:yA->Bool×Bool) (zh:yC->Bool×Bool) (zd:yE->Bool×Bool) (zg:Wd->Bool×Bool) (n:Nat) (v_Row:RowID) (v_Args:yA) (v_Func:Int) (v_Items:yE) (v_Op:Int) (v_Bound:Value)  :zgW (zdc zc zh zd zg) f66 (body f66) ⟨[.pure],[]⟩ [.pure (.agg (base.enc 67 (At.mk (Int.ofNat (n+5)) v_Row v_Args v_Func v_Items v_Op v_Bound)))]=(zcs zc zh zd zg (At.mk (Int.ofNat (n+5)) v_Row v_Args v_Func v_Items v_Op v_Bound)).ev noH (λr=>some (zYt r)) none:=by kernel_rfl
theorem zKT (zc:yA->Bool×Bool) (zh:yC->Bool×Bool) (zd:yE->Bool×Bool) (zg:Wd->Bool×Bool) (n:Nat) (v_Row:RowID) (v_Args:yA) (v_Func:Int) (v_Items:yE) (v_Op:Int) (v_Bound:Value)  :zgW (zdc zc zh zd zg) f66 (body f66) ⟨[.pure],[]⟩ [.pure (.agg (base.enc 67 (At.mk (Int.negSucc n) v_Row v_Args v_Func v_Items v_Op v_Bound)))]=(zcs zc zh zd zg (At.mk (Int.negSucc n) v_Row v_Args v_Func v_Items v_Op v_Bound)).ev noH (λr=>some (zYt r)) none:=by kernel_rfl
theorem zMr (zc:yA->Bool×Bool) (zh:yC->Bool×Bool) (zd:yE->Bool×Bool) (zg:Wd->Bool×Bool) (x_:At):zgW (zdc zc zh zd zg) f66 (body f66) ⟨[.pure],[]⟩ [.pure (.agg (base.enc 67 x_))]=(zcs zc zh zd zg x_).ev noH (λr=>some (zYt r)) none:=by
 obtain ⟨v_Kind,v_Row,v_Args,v_Func,v_Items,v_Op,v_Bound⟩:=x_
 match v_Kind with
 | .ofNat 0=>exact zKb zc zh zd zg v_Row v_Args v_Func v_Items v_Op v_Bound 
 | .ofNat 1=>exact zKH zc zh zd zg v_Row v_Args v_Func v_Items v_Op v_Bound 
 | .ofNat 2=>exact zK8 zc zh zd zg v_Row v_Args v_Func v_Items v_Op v_Bound 
 | .ofNat 3=>exact zJ5 zc zh zd zg v_Row v_Args v_Func v_Items v_Op v_Bound 
 | .ofNat 4=>exact zKt zc zh zd zg v_Row v_Args v_Func v_Items v_Op v_Bound 
 | .ofNat (n+5)=>exact zLt zc zh zd zg n v_Row v_Args v_Func v_Items v_Op v_Bound 
 | .negSucc n=>exact zKT zc zh zd zg n v_Row v_Args v_Func v_Items v_Op v_Bound 
theorem zJC (zc:yA->Bool×Bool) (zh:yC->Bool×Bool) (zd:yE->Bool×Bool) (zg:Wd->Bool×Bool) (zno:SdP 126 (zcF zc)) (zgJ:SdP 127 (ziH zh)) (zpc:SdP 132 (zc1 zd)) (zgO:SdP 133 (zdT zg)):SdP 66 (zoa (zkK zc zh zd zg)):=
 z1P (cx':=(zdc zc zh zd zg)) zG3 zkz zbbI (zk ⟨zkI,zcq,zno,zgJ,zDg,zyB,zD1,zw3,zpc,zgO,zpL,zDh,trivial⟩) call66 func66 (c:=body f66) (by kernel_rfl) (zDG (l:=[]) (by kernel_rfl) trivial) (sg:=⟨[.pure],[]⟩) (A:=zE5) (res:=zYt) (W:=λx=>zcs zc zh zd zg x.1) (z:=default) (λx=>zMr zc zh zd zg x.1) (λ_=>by kernel_rfl)
def zJL (zbS:yC->Bool×Bool):=zbt base 11 [(20,(ziH zbS))]
def zyN (zbS:yC->Bool×Bool) (a:yC):Wy0 (Bool):=.bn (zbS a) λr0=>.i (!r0) (.k true) (.k (Int.ofNat a.length==0))
def zlz (zbS:yC->Bool×Bool) (a:yC):=(zyN zbS a).fin default
theorem zGr (zbS:yC->Bool×Bool) (zzE:SdP 20 (ziH zbS)):SdP 127 (ziH (zlz zbS)):=
 sT (cx':=(zJL zbS)) (zk ⟨zzE,trivial⟩) call127 func127 (lOK aN)
def zJd (zbS:yC->Bool×Bool):=zbt base 13 [(20,(ziH zbS))]
def zyE (zbS:yC->Bool×Bool) (w:Wd):Wy0 (Bool):=.bn (zbS w.Ann) λr0=>.i (!r0) (.k true) (.k (Int.ofNat w.Ann.length==0))
def zly (zbS:yC->Bool×Bool) (w:Wd):=(zyE zbS w).fin default
theorem zGp (zbS:yC->Bool×Bool) (zzE:SdP 20 (ziH zbS)):SdP 133 (zdT (zly zbS)):=
 sT (cx':=(zJd zbS)) (zk ⟨zzE,trivial⟩) call133 func133 (lOK aN)
def zmX (zh:yC->Bool×Bool) (zbb:yA->Bool×Int):=zbt base 9 [(127,(ziH zh)),(161,(zcU zbb))]
def zf1 (zh:yC->Bool×Bool) (zbb:yA->Bool×Int) (s:yA):Wy0 (Bool):=.bn (zbb s) λr0=>.k (decide (r0≥0))
def zcI (zh:yC->Bool×Bool) (zbb:yA->Bool×Int) (s:yA):=(zf1 zh zbb s).fin default
theorem zlZ (zh:yC->Bool×Bool) (zbb:yA->Bool×Int) (zgJ:SdP 127 (ziH zh)) (zoO:SdP 161 (zcU zbb)):SdP 126 (zcF (zcI zh zbb)):=
 sT (cx':=(zmX zh zbb)) (zk ⟨zgJ,zoO,trivial⟩) call126 func126 (lOK aN)
def zoS (zg:Wd->Bool×Bool) (zbf:yE->Bool×Int):=zbt base 9 [(133,(zdT zg)),(163,(zdu zbf))]
def zha (zg:Wd->Bool×Bool) (zbf:yE->Bool×Int) (s:yE):Wy0 (Bool):=.bn (zbf s) λr0=>.k (decide (r0≥0))
def zc4 (zg:Wd->Bool×Bool) (zbf:yE->Bool×Int) (s:yE):=(zha zg zbf s).fin default
theorem znw (zg:Wd->Bool×Bool) (zbf:yE->Bool×Int) (zgO:SdP 133 (zdT zg)) (zqI:SdP 163 (zdu zbf)):SdP 132 (zc1 (zc4 zg zbf)):=
 sT (cx':=(zoS zg zbf)) (zk ⟨zgO,zqI,trivial⟩) call132 func132 (lOK aN)
end Go.Proofs.YtljlfiomikifjaaGreatDoor
end
