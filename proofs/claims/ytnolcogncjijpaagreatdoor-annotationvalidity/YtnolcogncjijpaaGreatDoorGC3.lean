/- Texts of this claim, joined (the program, its functions in plain words, and what they compute). -/
import Derived.Test.YtnolcogncjijpaaGreatDoorGC2
set_option autoImplicit false
set_option linter.unusedVariables false
set_option linter.unusedSectionVars false
set_option linter.unusedSimpArgs false
set_option maxRecDepth 1000000
set_option maxHeartbeats 0
noncomputable section
namespace Go.Proofs.YtnolcogncjijpaaGreatDoor
open Go Go.Ab
open Go.Proofs.Tryz
abbrev zk4:=Int×Unit×Int×yB×Int×Int×yC×Int×Int×yA×Int×Int×Unit
abbrev zwc:=Int×Int×yB×Int×Int×yC×Int×Int×Fc
abbrev zkP:=Int×Int×yB×Int×Int×yC×Int×Int×yD×Int×Int×Unit
abbrev zvR:=Int×Int×yB×Int×Int×yC×Int×Int
abbrev zkU:=Int×yB×Int×Int×yC×Int×Int×Unit
abbrev zv0:=Int×yB×Int×Int
abbrev zkS:=Int×yB×Int×Int×Unit
def zgg (zj:yB->Bool×Int) (n_:Int) (inner:Int) (t13:yB) (t14:Int) (t15:Int) (t20:yC) (t21:Int) (t22:Int) (t32:yA) (t33:Int) (t34:Int) (f:Fc):Wy zk4 (Fc×Unit) zwc:=.i (decide (t34<t33)) (.i (decide (0<=t34)&&decide (t34<Int.ofNat t32.length)) (.bn (zj (t32.getD t34.toNat default)) λr0=>.h (n_,(),(if r0>inner then r0 else inner),t13,t14,t15,t20,t21,t22,t32,t33,(IntKind.i64.wrap (t34+1)),()) (f,())) .d) (.k (n_,inner,t13,t14,t15,t20,t21,t22,f))
def zna (zj:yB->Bool×Int) (x:zk4) (y:Fc×Unit):=zgg zj x.1 x.2.2.1 x.2.2.2.1 x.2.2.2.2.1 x.2.2.2.2.2.1 x.2.2.2.2.2.2.1 x.2.2.2.2.2.2.2.1 x.2.2.2.2.2.2.2.2.1 x.2.2.2.2.2.2.2.2.2.1 x.2.2.2.2.2.2.2.2.2.2.1 x.2.2.2.2.2.2.2.2.2.2.2.1 y.1
def ztm (zj:yB->Bool×Int) (n:Nat) (n_:Int) (inner:Int) (t13:yB) (t14:Int) (t15:Int) (t20:yC) (t21:Int) (t22:Int) (t32:yA) (t33:Int) (t34:Int) (f:Fc):=zN (zna zj) default n (n_,(),inner,t13,t14,t15,t20,t21,t22,t32,t33,t34,()) (f,())
def zBX (r:zwc):LTree ty:=.done (.exit 4) [.lit (.int .i64 r.1),.ptr 256 0,.lit (.int .i64 r.2.1),.sl 42 r.2.2.1,.lit (.int .i64 r.2.2.2.1),.lit (.int .i64 r.2.2.2.2.1),.sl 50 r.2.2.2.2.2.1,.lit (.int .i64 r.2.2.2.2.2.2.1),.lit (.int .i64 r.2.2.2.2.2.2.2.1)] [.box (base.enc 50 r.2.2.2.2.2.2.2.2) false]
def zCT:LL ty zk4:=za zm (za (zeB 256 0) (za zm (za (lSl 42) (za zm (za zm (za (lSl 50) (za zm (za zm (za (lSl 23) (za zm (za zm zr)))))))))))
def zgd (zj:yB->Bool×Int) (n_:Int) (inner:Int) (t13:yB) (t14:Int) (t15:Int) (t20:yC) (t21:Int) (t22:Int) (t45:yD) (t46:Int) (t47:Int):Wy zkP Unit zvR:=.i (decide (t47<t46)) (.i (decide (0<=t47)&&decide (t47<Int.ofNat t45.length)) (.bn (zj (t45.getD t47.toNat default).Ann) λr2=>.h (n_,(if r2>inner then r2 else inner),t13,t14,t15,t20,t21,t22,t45,t46,(IntKind.i64.wrap (t47+1)),()) ()) .d) (.k (n_,inner,t13,t14,t15,t20,t21,t22))
def zm8 (zj:yB->Bool×Int) (x:zkP) (y:Unit):=zgd zj x.1 x.2.1 x.2.2.1 x.2.2.2.1 x.2.2.2.2.1 x.2.2.2.2.2.1 x.2.2.2.2.2.2.1 x.2.2.2.2.2.2.2.1 x.2.2.2.2.2.2.2.2.1 x.2.2.2.2.2.2.2.2.2.1 x.2.2.2.2.2.2.2.2.2.2.1
def ztq (zj:yB->Bool×Int) (n:Nat) (n_:Int) (inner:Int) (t13:yB) (t14:Int) (t15:Int) (t20:yC) (t21:Int) (t22:Int) (t45:yD) (t46:Int) (t47:Int):=zN (zm8 zj) default n (n_,inner,t13,t14,t15,t20,t21,t22,t45,t46,t47,()) ()
def zB0 (r:zvR):LTree ty:=.done (.exit 6) [.lit (.int .i64 r.1),.lit (.int .i64 r.2.1),.sl 42 r.2.2.1,.lit (.int .i64 r.2.2.2.1),.lit (.int .i64 r.2.2.2.2.1),.sl 50 r.2.2.2.2.2.1,.lit (.int .i64 r.2.2.2.2.2.2.1),.lit (.int .i64 r.2.2.2.2.2.2.2)] []
def zDo:LL ty zkP:=za zm (za zm (za (lSl 42) (za zm (za zm (za (lSl 50) (za zm (za zm (za (lSl 52) (za zm (za zm zr))))))))))
def zg4 (zj:yB->Bool×Int) (n_:Int) (t13:yB) (t14:Int) (t15:Int) (t20:yC) (t21:Int) (t22:Int):Wy zkU Unit zv0:=.i (decide (t22<t21)) (.i (decide (0<=t22)&&decide (t22<Int.ofNat t20.length)) (.i ((t20.getD t22.toNat default).At.Kind==0) (.h (n_,t13,t14,t15,t20,t21,(IntKind.i64.wrap (t22+1)),()) ()) (.bn (ztm zj ((n_.toNat +Int.toNat 0+t13.length+t14.toNat +t15.toNat +t20.length+t21.toNat +t22.toNat +(t20.getD t22.toNat default).At.Ag.length+(Int.ofNat (t20.getD t22.toNat default).At.Ag.length).toNat +Int.toNat 0+1)+(FO.mk (At.mk (t20.getD t22.toNat default).At.Kind (t20.getD t22.toNat default).At.Row (t20.getD t22.toNat default).At.Ag (t20.getD t22.toNat default).At.Func (t20.getD t22.toNat default).At.Items (t20.getD t22.toNat default).At.Op (t20.getD t22.toNat default).At.Bd) (t20.getD t22.toNat default).Exp).At.Ag.length+(FO.mk (At.mk (t20.getD t22.toNat default).At.Kind (t20.getD t22.toNat default).At.Row (t20.getD t22.toNat default).At.Ag (t20.getD t22.toNat default).At.Func (t20.getD t22.toNat default).At.Items (t20.getD t22.toNat default).At.Op (t20.getD t22.toNat default).At.Bd) (t20.getD t22.toNat default).Exp).At.Items.length) n_ 0 t13 t14 t15 t20 t21 t22 (t20.getD t22.toNat default).At.Ag (Int.ofNat (t20.getD t22.toNat default).At.Ag.length) 0 (FO.mk (At.mk (t20.getD t22.toNat default).At.Kind (t20.getD t22.toNat default).At.Row (t20.getD t22.toNat default).At.Ag (t20.getD t22.toNat default).At.Func (t20.getD t22.toNat default).At.Items (t20.getD t22.toNat default).At.Op (t20.getD t22.toNat default).At.Bd) (t20.getD t22.toNat default).Exp)) λr5=>.bn (ztq zj (r5.1.toNat +r5.2.1.toNat +r5.2.2.1.length+r5.2.2.2.1.toNat +r5.2.2.2.2.1.toNat +r5.2.2.2.2.2.1.length+r5.2.2.2.2.2.2.1.toNat +r5.2.2.2.2.2.2.2.1.toNat +r5.2.2.2.2.2.2.2.2.At.Items.length+(Int.ofNat r5.2.2.2.2.2.2.2.2.At.Items.length).toNat +Int.toNat 0+1) r5.1 r5.2.1 r5.2.2.1 r5.2.2.2.1 r5.2.2.2.2.1 r5.2.2.2.2.2.1 r5.2.2.2.2.2.2.1 r5.2.2.2.2.2.2.2.1 r5.2.2.2.2.2.2.2.2.At.Items (Int.ofNat r5.2.2.2.2.2.2.2.2.At.Items.length) 0) λr4=>.h ((if IntKind.i64.wrap (1+r4.2.1)>r4.1 then IntKind.i64.wrap (1+r4.2.1) else r4.1),(r4.2.2.1),(r4.2.2.2.1),(r4.2.2.2.2.1),(r4.2.2.2.2.2.1),(r4.2.2.2.2.2.2.1),(IntKind.i64.wrap (r4.2.2.2.2.2.2.2+1)),()) ())) .d) (.k (n_,t13,t14,t15))
def zn3 (zj:yB->Bool×Int) (x:zkU) (y:Unit):=zg4 zj x.1 x.2.1 x.2.2.1 x.2.2.2.1 x.2.2.2.2.1 x.2.2.2.2.2.1 x.2.2.2.2.2.2.1
def zuk (zj:yB->Bool×Int) (n:Nat) (n_:Int) (t13:yB) (t14:Int) (t15:Int) (t20:yC) (t21:Int) (t22:Int):=zN (zn3 zj) default n (n_,t13,t14,t15,t20,t21,t22,()) ()
def zDC (r:zv0):LTree ty:=.done (.exit 2) [.lit (.int .i64 r.1),.sl 42 r.2.1,.lit (.int .i64 r.2.2.1),.lit (.int .i64 r.2.2.2)] []
def zED:LL ty zkU:=za zm (za (lSl 42) (za zm (za zm (za (lSl 50) (za zm (za zm zr))))))
def zgZ (zj:yB->Bool×Int) (n_:Int) (t13:yB) (t14:Int) (t15:Int):Wy zkS Unit (Int):=.i (decide (t15<t14)) (.i (decide (0<=t15)&&decide (t15<Int.ofNat t13.length)) (.bn (zuk zj (n_.toNat +t13.length+t14.toNat +t15.toNat +(t13.getD t15.toNat default).Fs.length+(Int.ofNat (t13.getD t15.toNat default).Fs.length).toNat +Int.toNat 0+1) n_ t13 t14 t15 (t13.getD t15.toNat default).Fs (Int.ofNat (t13.getD t15.toNat default).Fs.length) 0) λr8=>.h ((r8.1),(r8.2.1),(r8.2.2.1),(IntKind.i64.wrap (r8.2.2.2+1)),()) ()) .d) (.k n_)
def znT (zj:yB->Bool×Int) (x:zkS) (y:Unit):=zgZ zj x.1 x.2.1 x.2.2.1 x.2.2.2.1
def zuf (zj:yB->Bool×Int) (n:Nat) (n_:Int) (t13:yB) (t14:Int) (t15:Int):=zN (znT zj) default n (n_,t13,t14,t15,()) ()
def zEG:LL ty zkS:=za zm (za (lSl 42) (za zm (za zm zr)))
def zBD (x:zk4) (y:Fc×Unit):Nat:=((Int.toNat x.1+Int.toNat x.2.2.1+x.2.2.2.1.length+Int.toNat x.2.2.2.2.1+Int.toNat x.2.2.2.2.2.1+x.2.2.2.2.2.2.1.length+Int.toNat x.2.2.2.2.2.2.2.1+Int.toNat x.2.2.2.2.2.2.2.2.1+x.2.2.2.2.2.2.2.2.2.1.length+Int.toNat x.2.2.2.2.2.2.2.2.2.2.1+Int.toNat x.2.2.2.2.2.2.2.2.2.2.2.1+1)+y.1.At.Ag.length+y.1.At.Items.length)
def zCo (x:zkP) (y:Unit):Nat:=(Int.toNat x.1+Int.toNat x.2.1+x.2.2.1.length+Int.toNat x.2.2.2.1+Int.toNat x.2.2.2.2.1+x.2.2.2.2.2.1.length+Int.toNat x.2.2.2.2.2.2.1+Int.toNat x.2.2.2.2.2.2.2.1+x.2.2.2.2.2.2.2.2.1.length+Int.toNat x.2.2.2.2.2.2.2.2.2.1+Int.toNat x.2.2.2.2.2.2.2.2.2.2.1+1)
def zDl (x:zkU) (y:Unit):Nat:=(Int.toNat x.1+x.2.1.length+Int.toNat x.2.2.1+Int.toNat x.2.2.2.1+x.2.2.2.2.1.length+Int.toNat x.2.2.2.2.2.1+Int.toNat x.2.2.2.2.2.2.1+1)
def zCL (x:zkS) (y:Unit):Nat:=(Int.toNat x.1+x.2.1.length+Int.toNat x.2.2.1+Int.toNat x.2.2.2.1+1)
def zgY (zj:yB->Bool×Int):=zcC base 64 [(120,(zs9 zj))] [] [(3,(kpL [3,13,14,15])),(6,(kpL [3,13,14,15,20,21,22])),(11,(kpL [3,7,8,13,14,15,20,21,22,32,33,34])),(16,(kpL [3,8,13,14,15,20,21,22,45,46,47]))] [(3,1,(kpL [3])),(6,3,(kpL [3,13,14,15])),(11,5,(kpL [3,7,8,13,14,15,20,21,22])),(16,7,(kpL [3,8,13,14,15,20,21,22]))] [(11,spW zCT zHW (zna zj) default zBX zBD),(16,spW zDo zQf (zm8 zj) default zB0 zCo),(6,spW zED zQf (zn3 zj) default zDC zDl),(3,spW zEG zQf (znT zj) default zPk zCL)] []
theorem zB5 (zj:yB->Bool×Int):zR (zgY zj) (lp (body f120) 2):=zD (id:=11) (hl:=rfl)
theorem zBG (zj:yB->Bool×Int):zR (zgY zj) (lp (body f120) 3):=zD (id:=16) (hl:=rfl)
theorem zC7 (zj:yB->Bool×Int):zR (zgY zj) (lp (body f120) 1):=zD (id:=6) (hl:=rfl)
theorem zDW (zj:yB->Bool×Int):zR (zgY zj) (lp (body f120) 0):=zD (id:=3) (hl:=rfl)
def zuY (zj:yB->Bool×Int) (a:yB):Wy0 (Int):=.bn (zuf zj (Int.toNat 0+a.length+(Int.ofNat a.length).toNat +Int.toNat 0+1) 0 a (Int.ofNat a.length) 0) λr10=>.k r10
def zl7 (zj:yB->Bool×Int) (a:yB):=(zuY zj a).fin default
theorem zAt (zj:yB->Bool×Int) (zGb:SdP 120 (zs9 zj)):SdP 120 (zs9 (zl7 zj)):=
 sT (cx':=(zgY zj)) (zn ⟨zGb,trivial⟩) call120 func120 (lOK (aC (zDW zj) (aC (zC7 zj) (aC (zB5 zj) (aC (zBG zj) aN)))))
def zPf:Nat->(yB->Bool×Int)
 | 0=>λ_=>(false,default)
 | n+1=>zl7 (zPf n)
def zeZ (n:Nat):yB->Bool×Int:=zPf n
theorem zEF (n:Nat):zeZ (n+1)=zl7 (zeZ n):=rfl
theorem zJ3:∀ n,SdP 120 (zs9 (zeZ n))
 | 0=>zbd call120 (λ_=>rfl)
 | n+1=>by
  have ih:=zJ3 n;exact zAt _ (ih)
def zts:yB->Bool×Int:=zeZ 1000
def zt9:Ab.Spec ty:=zs9 zts
theorem zDa:SdP 120 zt9:=(zJ3 1000)
def zAO:=zbR base 13 []
def zsF (f:Fc):Wy0 (Bool):=.i (decide (f.Exp>64)) (.k true) (.k (decide (Int.ofNat f.At.Items.length>1024)))
def zeW (f:Fc):=(zsF f).fin default
def zBQ:AL base (Fc×Unit):=zf (zg (zdh 50)) zF
def zgP:=zi zBQ λx=>((zeW x.1).1,zRi (zeW x.1).2)
theorem zjl:SdP 122 zgP:=
 sT (cx':=zAO) (zn trivial) call122 func122 (lOK aN)
abbrev zdl:=yC×Unit×Int×Int×Unit
def zhq (s:yC) (t7:Int) (t8:Int):Wy zdl Unit (Int⊕Unit):=.i (decide (t8<t7)) (.i (decide (0<=t8)&&decide (t8<Int.ofNat s.length)) (.bn (zeW (FO.mk (At.mk (s.getD t8.toNat default).At.Kind (s.getD t8.toNat default).At.Row (s.getD t8.toNat default).At.Ag (s.getD t8.toNat default).At.Func (s.getD t8.toNat default).At.Items (s.getD t8.toNat default).At.Op (s.getD t8.toNat default).At.Bd) (s.getD t8.toNat default).Exp)) λr0=>.i (r0) (.k (.inl t8)) (.h (s,(),t7,(IntKind.i64.wrap (t8+1)),()) ())) .d) (.k (.inr ()))
def zcK (x:zdl) (y:Unit):=zhq x.1 x.2.2.1 x.2.2.2.1
def zhw (n:Nat) (s:yC) (t7:Int) (t8:Int):=zN (zcK) (.inl default) n (s,(),t7,t8,()) ()
def zoj (r:Int⊕Unit):LTree ty:=.ite (isL r) (.done .ret [.lit (.int .i64 (getL r))] []) (.done (.exit 0) [] [])
def zoA:LL ty zdl:=za (lSl 50) (za (lFn 122 (zr)) (za zm (za zm zr)))
def zn9 (x:zdl) (y:Unit):Nat:=(x.1.length+Int.toNat x.2.2.1+Int.toNat x.2.2.2.1+1)
def zhz:=zcC base 19 [(122,zgP)] [] [(2,(kpL [0,1,7,8]))] [(2,1,[]),(2,0,(kpL [4]))] [(2,spW zoA zQf (zcK) (.inl default) zoj zn9)] []
theorem zod:zR zhz (lp (body f150) 0):=zD (id:=2) (hl:=rfl)
def zhL (s:yC):Wy0 (Int):=.bn (zhw (s.length+(Int.ofNat s.length).toNat +Int.toNat 0+1) s (Int.ofNat s.length) 0) λr2=>.i (isL r2) (.k (getL r2)) (.k (-1:Int))
def zcq (s:yC):=(zhL s).fin default
def zpf:AL base (yC×Unit×Unit):=zf (zg (vSl 50)) (zf (zg (vFn 122 zcQ)) zF)
def zdD:=zi zpf λx=>((zcq x.1).1,zRK (zcq x.1).2)
theorem zgi:SdP 150 zdD:=
 sT (cx':=zhz) (zn ⟨zjl,trivial⟩) call150 func150 (lOK (aC zod aN))
def zmU:=zbR base 9 [(122,zgP),(150,(zCy zdD zdD))]
def zgB (s:yC):Wy0 (Bool):=.bn (zcq s) λr0=>.k (decide (r0≥0))
def zb9 (s:yC):=(zgB s).fin default
def zfJ:=zi zpf λx=>((zb9 x.1).1,zRi (zb9 x.1).2)
theorem zlG:SdP 107 zfJ:=
 sT (cx':=zmU) (zn ⟨zjl,(Sound.or (zgi) (zgi)),trivial⟩) call107 func107 (lOK aN)
def zEs:=zbR base 12 [(107,zfJ),(122,zgP)]
def zu5 (t:Term):Wy0 (Bool):=.i (decide (Int.ofNat t.Fs.length>64)) (.k true) (.bn (zb9 t.Fs) λr0=>.k r0)
def ziO (t:Term):=(zu5 t).fin default
def zF7:AL base (Term×Unit):=zf (zg (zdh 42)) zF
def zin:=zi zF7 λx=>((ziO x.1).1,zRi (ziO x.1).2)
theorem zlb:SdP 121 zin:=
 sT (cx':=zEs) (zn ⟨zlG,zjl,trivial⟩) call121 func121 (lOK aN)
abbrev zdf:=yB×Unit×Int×Int×Unit
def zok (s:yB) (t7:Int) (t8:Int):Wy zdf Unit (Int⊕Unit):=.i (decide (t8<t7)) (.i (decide (0<=t8)&&decide (t8<Int.ofNat s.length)) (.bn (ziO (s.getD t8.toNat default)) λr0=>.i (r0) (.k (.inl t8)) (.h (s,(),t7,(IntKind.i64.wrap (t8+1)),()) ())) .d) (.k (.inr ()))
def zg0 (x:zdf) (y:Unit):=zok x.1 x.2.2.1 x.2.2.2.1
def zog (n:Nat) (s:yB) (t7:Int) (t8:Int):=zN (zg0) (.inl default) n (s,(),t7,t8,()) ()
def zob:LL ty zdf:=za (lSl 42) (za (lFn 121 (zr)) (za zm (za zm zr)))
def znB (x:zdf) (y:Unit):Nat:=(x.1.length+Int.toNat x.2.2.1+Int.toNat x.2.2.2.1+1)
def zg1:=zcC base 19 [(121,zin)] [] [(2,(kpL [0,1,7,8]))] [(2,1,[]),(2,0,(kpL [4]))] [(2,spW zob zQf (zg0) (.inl default) zoj znB)] []
theorem znz:zR zg1 (lp (body f149) 0):=zD (id:=2) (hl:=rfl)
def zo1 (s:yB):Wy0 (Int):=.bn (zog (s.length+(Int.ofNat s.length).toNat +Int.toNat 0+1) s (Int.ofNat s.length) 0) λr2=>.i (isL r2) (.k (getL r2)) (.k (-1:Int))
def zcZ (s:yB):=(zo1 s).fin default
def zov:AL base (yB×Unit×Unit):=zf (zg (vSl 42)) (zf (zg (vFn 121 zcQ)) zF)
def zdx:=zi zov λx=>((zcZ x.1).1,zRK (zcZ x.1).2)
theorem zfY:SdP 149 zdx:=
 sT (cx':=zg1) (zn ⟨zlb,trivial⟩) call149 func149 (lOK (aC znz aN))
def zms:=zbR base 9 [(121,zin),(149,(zCy zdx zdx))]
def zgf (s:yB):Wy0 (Bool):=.bn (zcZ s) λr0=>.k (decide (r0≥0))
def zb0 (s:yB):=(zgf s).fin default
def zfp:=zi zov λx=>((zb0 x.1).1,zRi (zb0 x.1).2)
theorem zk6:SdP 105 zfp:=
 sT (cx':=zms) (zn ⟨zlb,(Sound.or (zfY) (zfY)),trivial⟩) call105 func105 (lOK aN)
def zIs:=zbR base 19 [(47,zro),(105,zfp),(120,zt9),(121,zin)]
def zxL (a:yB):Wy0 (Bool):=.i (decide (Int.ofNat a.length>512)) (.k false) (.bn (zts a) λr2=>.i (decide (r2>8)) (.k false) (.bn (zoF a) λr1=>.i (decide (r1>4096)) (.k false) (.bn (zb0 a) λr0=>.k (!r0))))
def zi8 (a:yB):=(zxL a).fin default
def zpi:=zi zT8 λx=>((zi8 x.1).1,zRi (zi8 x.1).2)
theorem zt7:SdP 70 zpi:=
 sT (cx':=zIs) (zn ⟨zv8,zk6,zDa,zlb,trivial⟩) call70 func70 (lOK aN)
abbrev znp:=yB×Unit×yB×Int×Int×yC×Int×Int×Unit
abbrev zxA:=Bool⊕(yB×yB×Int×Int)
abbrev znr:=yB×yB×Int×Int×Unit
def zh9 (zx:At->Bool×Bool) (a:yB) (t10:yB) (t11:Int) (t12:Int) (t40:yC) (t41:Int) (t42:Int) (t:Term):Wy znp (Term×Unit) zxA:=.i (decide (t42<t41)) (.i (decide (0<=t42)&&decide (t42<Int.ofNat t40.length)) (.i (decide ((t40.getD t42.toNat default).Exp<1)) (.k (.inl false)) (.bn (zeq (At.mk (t40.getD t42.toNat default).At.Kind (t40.getD t42.toNat default).At.Row (t40.getD t42.toNat default).At.Ag (t40.getD t42.toNat default).At.Func (t40.getD t42.toNat default).At.Items (t40.getD t42.toNat default).At.Op (t40.getD t42.toNat default).At.Bd)) λr6=>.i (r6) (.i ((t40.getD t42.toNat default).Exp != 1) (.k (.inl false)) (.i (decide (t42>0)) (.i (decide (0<=IntKind.i64.wrap (t42 - 1))&&decide (IntKind.i64.wrap (t42 - 1)<Int.ofNat t.Fs.length)) (.bn (zg9 (At.mk (t.Fs.getD (IntKind.i64.wrap (t42 - 1)).toNat default).At.Kind (t.Fs.getD (IntKind.i64.wrap (t42 - 1)).toNat default).At.Row (t.Fs.getD (IntKind.i64.wrap (t42 - 1)).toNat default).At.Ag (t.Fs.getD (IntKind.i64.wrap (t42 - 1)).toNat default).At.Func (t.Fs.getD (IntKind.i64.wrap (t42 - 1)).toNat default).At.Items (t.Fs.getD (IntKind.i64.wrap (t42 - 1)).toNat default).At.Op (t.Fs.getD (IntKind.i64.wrap (t42 - 1)).toNat default).At.Bd) (At.mk (t40.getD t42.toNat default).At.Kind (t40.getD t42.toNat default).At.Row (t40.getD t42.toNat default).At.Ag (t40.getD t42.toNat default).At.Func (t40.getD t42.toNat default).At.Items (t40.getD t42.toNat default).At.Op (t40.getD t42.toNat default).At.Bd)) λr1=>.i (decide (r1≥0)) (.k (.inl false)) (.bn (zx (At.mk (t40.getD t42.toNat default).At.Kind (t40.getD t42.toNat default).At.Row (t40.getD t42.toNat default).At.Ag (t40.getD t42.toNat default).At.Func (t40.getD t42.toNat default).At.Items (t40.getD t42.toNat default).At.Op (t40.getD t42.toNat default).At.Bd)) λr0=>.i (!r0) (.k (.inl false)) (.h (a,(),t10,t11,t12,t40,t41,(IntKind.i64.wrap (t42+1)),()) (t,())))) .d) (.bn (zx (At.mk (t40.getD t42.toNat default).At.Kind (t40.getD t42.toNat default).At.Row (t40.getD t42.toNat default).At.Ag (t40.getD t42.toNat default).At.Func (t40.getD t42.toNat default).At.Items (t40.getD t42.toNat default).At.Op (t40.getD t42.toNat default).At.Bd)) λr2=>.i (!r2) (.k (.inl false)) (.h (a,(),t10,t11,t12,t40,t41,(IntKind.i64.wrap (t42+1)),()) (t,()))))) (.i (decide (t42>0)) (.i (decide (0<=IntKind.i64.wrap (t42 - 1))&&decide (IntKind.i64.wrap (t42 - 1)<Int.ofNat t.Fs.length)) (.bn (zg9 (At.mk (t.Fs.getD (IntKind.i64.wrap (t42 - 1)).toNat default).At.Kind (t.Fs.getD (IntKind.i64.wrap (t42 - 1)).toNat default).At.Row (t.Fs.getD (IntKind.i64.wrap (t42 - 1)).toNat default).At.Ag (t.Fs.getD (IntKind.i64.wrap (t42 - 1)).toNat default).At.Func (t.Fs.getD (IntKind.i64.wrap (t42 - 1)).toNat default).At.Items (t.Fs.getD (IntKind.i64.wrap (t42 - 1)).toNat default).At.Op (t.Fs.getD (IntKind.i64.wrap (t42 - 1)).toNat default).At.Bd) (At.mk (t40.getD t42.toNat default).At.Kind (t40.getD t42.toNat default).At.Row (t40.getD t42.toNat default).At.Ag (t40.getD t42.toNat default).At.Func (t40.getD t42.toNat default).At.Items (t40.getD t42.toNat default).At.Op (t40.getD t42.toNat default).At.Bd)) λr4=>.i (decide (r4≥0)) (.k (.inl false)) (.bn (zx (At.mk (t40.getD t42.toNat default).At.Kind (t40.getD t42.toNat default).At.Row (t40.getD t42.toNat default).At.Ag (t40.getD t42.toNat default).At.Func (t40.getD t42.toNat default).At.Items (t40.getD t42.toNat default).At.Op (t40.getD t42.toNat default).At.Bd)) λr3=>.i (!r3) (.k (.inl false)) (.h (a,(),t10,t11,t12,t40,t41,(IntKind.i64.wrap (t42+1)),()) (t,())))) .d) (.bn (zx (At.mk (t40.getD t42.toNat default).At.Kind (t40.getD t42.toNat default).At.Row (t40.getD t42.toNat default).At.Ag (t40.getD t42.toNat default).At.Func (t40.getD t42.toNat default).At.Items (t40.getD t42.toNat default).At.Op (t40.getD t42.toNat default).At.Bd)) λr5=>.i (!r5) (.k (.inl false)) (.h (a,(),t10,t11,t12,t40,t41,(IntKind.i64.wrap (t42+1)),()) (t,())))))) .d) (.k (.inr (a,t10,t11,t12)))
def zqu (zx:At->Bool×Bool) (x:znp) (y:Term×Unit):=zh9 zx x.1 x.2.2.1 x.2.2.2.1 x.2.2.2.2.1 x.2.2.2.2.2.1 x.2.2.2.2.2.2.1 x.2.2.2.2.2.2.2.1 y.1
def zqr (zx:At->Bool×Bool) (n:Nat) (a:yB) (t10:yB) (t11:Int) (t12:Int) (t40:yC) (t41:Int) (t42:Int) (t:Term):=zN (zqu zx) (.inl default) n (a,(),t10,t11,t12,t40,t41,t42,()) (t,())
def zF4 (r:zxA):LTree ty:=.ite (isL r) (.done .ret [.lit (.bool (getL r))] []) (.done (.exit 2) [.sl 42 (getR r).1,.sl 42 (getR r).2.1,.lit (.int .i64 (getR r).2.2.1),.lit (.int .i64 (getR r).2.2.2)] [])
def zGG:LL ty znp:=za (lSl 42) (za (zeB 340 0) (za (lSl 42) (za zm (za zm (za (lSl 50) (za zm (za zm zr)))))))
def zh2 (zx:At->Bool×Bool) (a:yB) (t10:yB) (t11:Int) (t12:Int):Wy znr Unit (Bool⊕Unit):=.i (decide (t12<t11)) (.i (decide (0<=t12)&&decide (t12<Int.ofNat t10.length)) (.i (decide ((t10.getD t12.toNat default).Cf<1)) (.k (.inl false)) (.i (decide ((t10.getD t12.toNat default).Cf>1152921504606846976)) (.k (.inl false)) (.i (decide (t12>0)) (.i (decide (0<=IntKind.i64.wrap (t12 - 1))&&decide (IntKind.i64.wrap (t12 - 1)<Int.ofNat a.length)) (.bn (zb1 (a.getD (IntKind.i64.wrap (t12 - 1)).toNat default) (t10.getD t12.toNat default)) λr15=>.i (decide (r15≥0)) (.k (.inl false)) (.bn (zqr zx (a.length+t10.length+t11.toNat +t12.toNat +(t10.getD t12.toNat default).Fs.length+(Int.ofNat (t10.getD t12.toNat default).Fs.length).toNat +Int.toNat 0+(t10.getD t12.toNat default).Fs.length+1) a t10 t11 t12 (t10.getD t12.toNat default).Fs (Int.ofNat (t10.getD t12.toNat default).Fs.length) 0 (t10.getD t12.toNat default)) λr14=>.i (isL r14) (.k (.inl (getL r14))) (.h ((getR r14).1,(getR r14).2.1,(getR r14).2.2.1,(IntKind.i64.wrap ((getR r14).2.2.2+1)),()) ()))) .d) (.bn (zqr zx (a.length+t10.length+t11.toNat +t12.toNat +(t10.getD t12.toNat default).Fs.length+(Int.ofNat (t10.getD t12.toNat default).Fs.length).toNat +Int.toNat 0+(t10.getD t12.toNat default).Fs.length+1) a t10 t11 t12 (t10.getD t12.toNat default).Fs (Int.ofNat (t10.getD t12.toNat default).Fs.length) 0 (t10.getD t12.toNat default)) λr16=>.i (isL r16) (.k (.inl (getL r16))) (.h ((getR r16).1,(getR r16).2.1,(getR r16).2.2.1,(IntKind.i64.wrap ((getR r16).2.2.2+1)),()) ()))))) .d) (.k (.inr ()))
def zp6 (zx:At->Bool×Bool) (x:znr) (y:Unit):=zh2 zx x.1 x.2.1 x.2.2.1 x.2.2.2.1
def zv5 (zx:At->Bool×Bool) (n:Nat) (a:yB) (t10:yB) (t11:Int) (t12:Int):=zN (zp6 zx) (.inl default) n (a,t10,t11,t12,()) ()
def zHU:LL ty znr:=za (lSl 42) (za (lSl 42) (za zm (za zm zr)))
def zGd (x:znp) (y:Term×Unit):Nat:=(x.1.length+x.2.2.1.length+Int.toNat x.2.2.2.1+Int.toNat x.2.2.2.2.1+x.2.2.2.2.2.1.length+Int.toNat x.2.2.2.2.2.2.1+Int.toNat x.2.2.2.2.2.2.2.1+y.1.Fs.length+1)
def zGz (x:znr) (y:Unit):Nat:=(x.1.length+x.2.1.length+Int.toNat x.2.2.1+Int.toNat x.2.2.2.1+1)
def zql (zx:At->Bool×Bool):=zcC base 85 [(70,zpi),(71,zgJ),(72,zhP),(73,zjK),(74,(zpJ zx))] [] [(4,(kpL [0,10,11,12])),(9,(kpL [0,4,10,11,12,40,41,42]))] [(4,1,[]),(4,0,(kpL [2])),(9,3,(kpL [0,10,11,12])),(9,0,(kpL [2]))] [(9,spW zGG zNY (zqu zx) (.inl default) zF4 zGd),(4,spW zHU zQf (zp6 zx) (.inl default) zRH zGz)] []
theorem zFz (zx:At->Bool×Bool):zR (zql zx) (lp (body f31) 1):=zD (id:=9) (hl:=rfl)
theorem zFv (zx:At->Bool×Bool):zR (zql zx) (lp (body f31) 0):=zD (id:=4) (hl:=rfl)
def zwS (zx:At->Bool×Bool) (a:yB):Wy0 (Bool):=.bn (zi8 a) λr21=>.i (!r21) (.k false) (.bn (zv5 zx (a.length+a.length+(Int.ofNat a.length).toNat +Int.toNat 0+1) a a (Int.ofNat a.length) 0) λr20=>.i (isL r20) (.k (getL r20)) (.k true))
def zkA (zx:At->Bool×Bool) (a:yB):=(zwS zx a).fin default
theorem zDD (zx:At->Bool×Bool) (zDb:SdP 74 (zpJ zx)):SdP 31 (zrO (zkA zx)):=
 sT (cx':=(zql zx)) (zn ⟨zt7,zjk,zkD,zpv,zDb,trivial⟩) call31 func31 (lOK (aC (zFv zx) (aC (zFz zx) aN)))
def zKw:=zbR base 9 [(38,zui)]
def zAk (a:yB) (b:yB):Wy0 (Bool):=.bn (ztg a b) λr0=>.k (r0==0)
def zhW (a:yB) (b:yB):=(zAk a b).fin default
def zpN:=zi zQF λx=>((zhW x.1 x.2.1).1,zRi (zhW x.1 x.2.1).2)
theorem zuI:SdP 32 zpN:=
 sT (cx':=zKw) (zn ⟨zDK,trivial⟩) call32 func32 (lOK aN)
def zSg:=zbR base 36 []
def zJ5 (v:Value):Wy0 (Bool):=.i (v.Kind==0) (.k (v.Text.toList==(ByteArray.mk #[]).toList)) (.i (v.Kind==1) (.i (v.Int==0) (.k (decide (Int.ofNat v.Text.size<=255))) (.k false)) (.i (v.Kind==2) (.i (v.Int==0) (.k (v.Text.toList==(ByteArray.mk #[]).toList)) (.i (v.Int==1) (.k (v.Text.toList==(ByteArray.mk #[]).toList)) (.k false))) (.k false)))
def zpo (v:Value):=(zJ5 v).fin default
def zrB:=zi zTu λx=>((zpo x.1).1,zRi (zpo x.1).2)
theorem zuz:SdP 133 zrB:=
 sT (cx':=zSg) (zn trivial) call133 func133 (lOK aN)
def zCX:=zbR base 27 [(133,zrB)]
def zul (w:Wd) (p1:Value) (p2:Int):Wy0 (Bool):=.bn (zpo w.Value) λr0=>.i (!r0) (.k true) (.i (w.Value.Kind != p1.Kind) (.k true) (.i (p2==0) (.k (w.Value.Int != 1)) (.k false)))
def zf6 (w:Wd) (p1:Value) (p2:Int):=(zul w p1 p2).fin default
def zEn:AL base (Wd×Value×(Int×Unit)×Unit):=zf (zg (zdh 52)) (zf (zg (zQp 46)) (zf (zg (zRG (zpI zlk zcQ))) zF))
def zhQ:=zi zEn λx=>((zf6 x.1 x.2.1 x.2.2.1.1).1,zRi (zf6 x.1 x.2.1 x.2.2.1.1).2)
theorem zkB:SdP 134 zhQ:=
 sT (cx':=zCX) (zn ⟨zuz,trivial⟩) call134 func134 (lOK aN)
abbrev zcU:=yD×(Value×(Int×Unit)×Unit)×Int×Int×Unit
def zmp (s:yD) (f_0:Value) (f_1:Int) (t7:Int) (t8:Int):Wy zcU Unit (Int⊕Unit):=.i (decide (t8<t7)) (.i (decide (0<=t8)&&decide (t8<Int.ofNat s.length)) (.bn (zf6 (s.getD t8.toNat default) f_0 f_1) λr0=>.i (r0) (.k (.inl t8)) (.h (s,(f_0,(f_1,()),()),t7,(IntKind.i64.wrap (t8+1)),()) ())) .d) (.k (.inr ()))
def zf2 (x:zcU) (y:Unit):=zmp x.1 x.2.1.1 x.2.1.2.1.1 x.2.2.1 x.2.2.2.1
def zmG (n:Nat) (s:yD) (f_0:Value) (f_1:Int) (t7:Int) (t8:Int):=zN (zf2) (.inl default) n (s,(f_0,(f_1,()),()),t7,t8,()) ()
def zmF:LL ty zcU:=za (lSl 52) (za (lFn 134 (za (zAd (zhu (λx=>(⟨x.1,x.2.1,x.2.2.1⟩:Value)) (λx=>(x.Kind,x.Int,x.Text,())) (λ_=>rfl) (za zm (za zm (za zmf zr)))) 0) (za (zAd (za zm zr) 0) zr))) (za zm (za zm zr)))
def zl1 (x:zcU) (y:Unit):Nat:=(x.1.length+Int.toNat x.2.1.2.1.1+Int.toNat x.2.2.1+Int.toNat x.2.2.2.1+1)
def zf1:=zcC base 19 [(134,zhQ)] [] [(2,(kpL [0,1,7,8]))] [(2,1,[]),(2,0,(kpL [4]))] [(2,spW zmF zQf (zf2) (.inl default) zoj zl1)] []
theorem zlP:zR zf1 (lp (body f135) 0):=zD (id:=2) (hl:=rfl)
def zm6 (s:yD) (f_0:Value) (f_1:Int):Wy0 (Int):=.bn (zmG (s.length+f_1.toNat +(Int.ofNat s.length).toNat +Int.toNat 0+1) s f_0 f_1 (Int.ofNat s.length) 0) λr2=>.i (isL r2) (.k (getL r2)) (.k (-1:Int))
def zcH (s:yD) (f_0:Value) (f_1:Int):=(zm6 s f_0 f_1).fin default
def zmQ:AL base (yD×(Value×(Int×Unit)×Unit)×Unit):=zf (zg (vSl 52)) (zf (zg (vFn 134 (zpI (zQp 46) (zpI (zRG (zpI zlk zcQ)) zcQ)))) zF)
def zfs:=zi zmQ λx=>((zcH x.1 x.2.1.1 x.2.1.2.1.1).1,zRK (zcH x.1 x.2.1.1 x.2.1.2.1.1).2)
theorem zla:SdP 135 zfs:=
 sT (cx':=zf1) (zn ⟨zkB,trivial⟩) call135 func135 (lOK (aC zlP aN))
def zk5:=zbR base 9 [(134,zhQ),(135,zfs)]
def zft (s:yD) (f_0:Value) (f_1:Int):Wy0 (Bool):=.bn (zcH s f_0 f_1) λr0=>.k (decide (r0≥0))
def zbm (s:yD) (f_0:Value) (f_1:Int):=(zft s f_0 f_1).fin default
def zeK:=zi zmQ λx=>((zbm x.1 x.2.1.1 x.2.1.2.1.1).1,zRi (zbm x.1 x.2.1.1 x.2.1.2.1.1).2)
theorem zj1:SdP 76 zeK:=
 sT (cx':=zk5) (zn ⟨zkB,zla,trivial⟩) call76 func76 (lOK aN)
def zHP:=zbR base 43 [(76,zeK),(133,zrB),(134,zhQ)]
def zwZ (fn:Int) (items:yD) (op:Int) (bound:Value):Wy0 (Bool):=.i (decide (fn<0)) (.k false) (.i (decide (fn>3)) (.k false) (.i (decide (op<5)) (.k false) (.i (decide (op>10)) (.k false) (.bn (zpo bound) λr3=>.i (!r3) (.k false) (.i (fn==0) (.i (bound.Kind != 0) (.k false) (.bn (zbm items bound fn) λr0=>.k (!r0))) (.i (fn==1) (.i (bound.Kind != 0) (.k false) (.bn (zbm items bound fn) λr1=>.k (!r1))) (.bn (zbm items bound fn) λr2=>.k (!r2))))))))
def zhX (fn:Int) (items:yD) (op:Int) (bound:Value):=(zwZ fn items op bound).fin default
def znQ:=zi zTs λx=>((zhX x.1 x.2.1 x.2.2.1 x.2.2.2.1).1,zRi (zhX x.1 x.2.1 x.2.2.1 x.2.2.2.1).2)
theorem zs8:SdP 75 znQ:=
 sT (cx':=zHP) (zn ⟨zj1,zuz,zkB,trivial⟩) call75 func75 (lOK aN)
def zym:=zbR base 7 []
def zqL (t:Term):Wy0 (Bool):=.k (Int.ofNat t.Fs.length==0)
def zfL (t:Term):=(zqL t).fin default
def zfM:=zi zF7 λx=>((zfL x.1).1,zRi (zfL x.1).2)
theorem ziu:SdP 119 zfM:=
 sT (cx':=zym) (zn trivial) call119 func119 (lOK aN)
abbrev zde:=yB×Unit×Int×Int×Unit
def znS (s:yB) (t7:Int) (t8:Int):Wy zde Unit (Int⊕Unit):=.i (decide (t8<t7)) (.i (decide (0<=t8)&&decide (t8<Int.ofNat s.length)) (.i ((zfL (s.getD t8.toNat default)).2) (.k (.inl t8)) (.h (s,(),t7,(IntKind.i64.wrap (t8+1)),()) ())) .d) (.k (.inr ()))
def zgX (x:zde) (y:Unit):=znS x.1 x.2.2.1 x.2.2.2.1
def zn4 (n:Nat) (s:yB) (t7:Int) (t8:Int):=zN (zgX) (.inl default) n (s,(),t7,t8,()) ()
def zoa:LL ty zde:=za (lSl 42) (za (lFn 119 (zr)) (za zm (za zm zr)))
def znK (x:zde) (y:Unit):Nat:=(x.1.length+Int.toNat x.2.2.1+Int.toNat x.2.2.2.1+1)
def zhc:=zcC base 19 [(119,zfM)] [] [(2,(kpL [0,1,7,8]))] [(2,1,[]),(2,0,(kpL [4]))] [(2,spW zoa zQf (zgX) (.inl default) zoj znK)] []
theorem znw:zR zhc (lp (body f149) 0):=zD (id:=2) (hl:=rfl)
def zoZ (s:yB):Wy0 (Int):=.bn (zn4 (s.length+(Int.ofNat s.length).toNat +Int.toNat 0+1) s (Int.ofNat s.length) 0) λr0=>.i (isL r0) (.k (getL r0)) (.k (-1:Int))
def zc1 (s:yB):=(zoZ s).fin default
def zow:AL base (yB×Unit×Unit):=zf (zg (vSl 42)) (zf (zg (vFn 119 zcQ)) zF)
def zdv:=zi zow λx=>((zc1 x.1).1,zRK (zc1 x.1).2)
theorem zf7:SdP 149 zdv:=
 sT (cx':=zhc) (zn ⟨ziu,trivial⟩) call149 func149 (lOK (aC znw aN))
def zmy:=zbR base 9 [(119,zfM),(149,(zCy zdv zdv))]
def zgq (s:yB):Wy0 (Bool):=.bn (zc1 s) λr0=>.k (decide (r0≥0))
def zcI (s:yB):=(zgq s).fin default
def zfq:=zi zow λx=>((zcI x.1).1,zRi (zcI x.1).2)
theorem zk7:SdP 105 zfq:=
 sT (cx':=zmy) (zn ⟨ziu,(Sound.or (zf7) (zf7)),trivial⟩) call105 func105 (lOK aN)
def zB7:=zbR base 5 [(105,zfq),(119,zfM)]
def ztz (a:yB):Wy0 (Bool):=.bn (zcI a) λr0=>.k r0
def zd3 (a:yB):=(ztz a).fin default
def zks:=zi zT8 λx=>((zd3 x.1).1,zRi (zd3 x.1).2)
theorem zpY:SdP 68 zks:=
 sT (cx':=zB7) (zn ⟨zk7,ziu,trivial⟩) call68 func68 (lOK aN)
def zC1:=zbR base 14 []
def zt5 (a:yB):Wy0 (Bool):=.i (Int.ofNat a.length==1) (.i (decide ((0:Int)<=(0:Int))&&decide (0<Int.ofNat a.length)) (.k (Int.ofNat (a.getD (Int.toNat 0) default).Fs.length==0)) .d) (.k false)
def zfU (a:yB):=(zt5 a).fin default
def zlf:=zi zT8 λx=>((zfU x.1).1,zRi (zfU x.1).2)
theorem zqX:SdP 65 zlf:=
 sT (cx':=zC1) (zn trivial) call65 func65 (lOK aN)
def zIp:=zbR base 42 [(72,zhP)]
def zxH (a:yB):Wy0 (Bool):=.i (Int.ofNat a.length != 1) (.k false) (.i (decide ((0:Int)<=(0:Int))&&decide (0<Int.ofNat a.length)) (.i ((a.getD (Int.toNat 0) default).Cf != 1) (.k false) (.i (decide ((0:Int)<=(0:Int))&&decide (0<Int.ofNat a.length)) (.i (Int.ofNat (a.getD (Int.toNat 0) default).Fs.length != 1) (.k false) (.i (decide ((0:Int)<=(0:Int))&&decide (0<Int.ofNat a.length)) (.i (decide ((0:Int)<=(0:Int))&&decide (0<Int.ofNat (a.getD (Int.toNat 0) default).Fs.length)) (.i (((a.getD (Int.toNat 0) default).Fs.getD (Int.toNat 0) default).Exp==1) (.i (((a.getD (Int.toNat 0) default).Fs.getD (Int.toNat 0) default).At.Kind==2) (.k true) (.bn (zeq (At.mk ((a.getD (Int.toNat 0) default).Fs.getD (Int.toNat 0) default).At.Kind ((a.getD (Int.toNat 0) default).Fs.getD (Int.toNat 0) default).At.Row ((a.getD (Int.toNat 0) default).Fs.getD (Int.toNat 0) default).At.Ag ((a.getD (Int.toNat 0) default).Fs.getD (Int.toNat 0) default).At.Func ((a.getD (Int.toNat 0) default).Fs.getD (Int.toNat 0) default).At.Items ((a.getD (Int.toNat 0) default).Fs.getD (Int.toNat 0) default).At.Op ((a.getD (Int.toNat 0) default).Fs.getD (Int.toNat 0) default).At.Bd)) λr0=>.k r0)) (.k false)) .d) .d)) .d)) .d)
def zjb (a:yB):=(zxH a).fin default
def zpd:=zi zT8 λx=>((zjb x.1).1,zRi (zjb x.1).2)
theorem zua:SdP 64 zpd:=
 sT (cx':=zIp) (zn ⟨zkD,trivial⟩) call64 func64 (lOK aN)
def zQY:=zbR base 11 []
def zHy (id:RowID):Wy0 (Bool):=.i (decide (id.Table≥1)) (.k (decide (id.Seq≥1))) (.k false)
def znh (id:RowID):=(zHy id).fin default
def zRN:AL base (RowID×Unit):=zf (zg (zdh 25)) zF
def zpE:=zi zRN λx=>((znh x.1).1,zRi (znh x.1).2)
theorem ztr:SdP 69 zpE:=
 sT (cx':=zQY) (zn trivial) call69 func69 (lOK aN)
abbrev zdX:=yD×Unit×Int×Unit
def zdu (x_:yD) (i:Int):Wy zdX Unit (Bool⊕Unit):=.i (decide (i>0)) (.i (decide (0<=i)&&decide (i<Int.ofNat x_.length)) (.i (decide (0<=IntKind.i64.wrap (i - 1))&&decide (IntKind.i64.wrap (i - 1)<Int.ofNat x_.length)) (.bn (zbw (x_.getD i.toNat default) (x_.getD (IntKind.i64.wrap (i - 1)).toNat default)) λr0=>.i (decide (r0<0)) (.k (.inl false)) (.h (x_,(),(IntKind.i64.wrap (i - 1)),()) ())) .d) .d) (.k (.inr ()))
def zf5 (x:zdX) (y:Unit):=zdu x.1 x.2.2.1
def zds (n:Nat) (x_:yD) (i:Int):=zN (zf5) (.inl default) n (x_,(),i,()) ()
def zmA:LL ty zdX:=za (lSl 52) (za (lFn 85 (zr)) (za zm zr))
def zf0:=zcC base 25 [(85,zeu)] [] [(2,(kpL [0,1,5]))] [(2,1,[]),(2,0,(kpL [4]))] [(2,spW zmA zQf (zf5) (.inl default) zRH λx y=>(x.1.length+Int.toNat x.2.2.1+1))] []
theorem zlQ:zR zf0 (lp (body f132) 0):=zD (id:=2) (hl:=rfl)
def zgu (x_:yD):Wy0 (Bool):=.bn (zds (x_.length+(IntKind.i64.wrap (Int.ofNat x_.length - 1)).toNat +1) x_ (IntKind.i64.wrap (Int.ofNat x_.length - 1))) λr2=>.i (isL r2) (.k (getL r2)) (.k true)
def zb2 (x_:yD):=(zgu x_).fin default
def zm1:AL base (yD×Unit×Unit):=zf (zg (vSl 52)) (zf (zg (vFn 85 zcQ)) zF)
def zfu:=zi zm1 λx=>((zb2 x.1).1,zRi (zb2 x.1).2)
theorem zlj:SdP 132 zfu:=
 sT (cx':=zf0) (zn ⟨zf9,trivial⟩) call132 func132 (lOK (aC zlQ aN))
def zct (zc:yD->Bool×Bool) (zb:yA->Bool×Bool) (zd:yB->Bool×Bool) (ze:Wd->Bool×Bool):=zbR base 149 [(32,zpN),(64,zpd),(65,zlf),(68,zks),(69,zpE),(75,znQ),(76,(zcm zc)),(85,zeu),(129,(zb6 zb)),(130,(zrO zd)),(131,(zcM ze)),(132,zfu)]
def zbV (zc:yD->Bool×Bool) (zb:yA->Bool×Bool) (zd:yB->Bool×Bool) (ze:Wd->Bool×Bool) (x_:At):Wy0 (Bool):=.i (x_.Kind==0) (.i (x_.Func != 0) (.k false) (.i (Int.ofNat x_.Items.length != 0) (.k false) (.i (x_.Op != 0) (.k false) (.i (!(x_.Bd.Kind==0&&(x_.Bd.Int==0&&(x_.Bd.Text.toList==(ByteArray.mk #[]).toList&&true)))) (.k false) (.bn (zb x_.Ag) λr1=>.i (r1) (.k false) (.bn (znh x_.Row) λr0=>.i (r0) (.k (Int.ofNat x_.Ag.length==0)) (.k false))))))) (.i (x_.Kind==1) (.i (x_.Func != 0) (.k false) (.i (Int.ofNat x_.Items.length != 0) (.k false) (.i (x_.Op != 0) (.k false) (.i (!(x_.Bd.Kind==0&&(x_.Bd.Int==0&&(x_.Bd.Text.toList==(ByteArray.mk #[]).toList&&true)))) (.k false) (.i (!(x_.Row.Table==0&&(x_.Row.Seq==0&&true))) (.k false) (.bn (zb x_.Ag) λr3=>.i (r3) (.k false) (.i (Int.ofNat x_.Ag.length==2) (.i (decide ((0:Int)<=(0:Int))&&decide (0<Int.ofNat x_.Ag.length)) (.i (decide ((0:Int)<=(1:Int))&&decide (1<Int.ofNat x_.Ag.length)) (.bn (zhW (x_.Ag.getD (Int.toNat 0) default) (x_.Ag.getD (Int.toNat 1) default)) λr2=>.k (!r2)) .d) .d) (.k false)))))))) (.i (x_.Kind==2) (.i (x_.Func != 0) (.k false) (.i (Int.ofNat x_.Items.length != 0) (.k false) (.i (x_.Op != 0) (.k false) (.i (!(x_.Bd.Kind==0&&(x_.Bd.Int==0&&(x_.Bd.Text.toList==(ByteArray.mk #[]).toList&&true)))) (.k false) (.i (!(x_.Row.Table==0&&(x_.Row.Seq==0&&true))) (.k false) (.bn (zb x_.Ag) λr6=>.i (r6) (.k false) (.i (Int.ofNat x_.Ag.length==1) (.i (decide ((0:Int)<=(0:Int))&&decide (0<Int.ofNat x_.Ag.length)) (.bn (zfU (x_.Ag.getD (Int.toNat 0) default)) λr5=>.i (!r5) (.i (decide ((0:Int)<=(0:Int))&&decide (0<Int.ofNat x_.Ag.length)) (.bn (zjb (x_.Ag.getD (Int.toNat 0) default)) λr4=>.k (!r4)) .d) (.k false)) .d) (.k false)))))))) (.i (x_.Kind==3) (.i (x_.Func != 0) (.k false) (.i (Int.ofNat x_.Items.length != 0) (.k false) (.i (x_.Op != 0) (.k false) (.i (!(x_.Bd.Kind==0&&(x_.Bd.Int==0&&(x_.Bd.Text.toList==(ByteArray.mk #[]).toList&&true)))) (.k false) (.i (!(x_.Row.Table==0&&(x_.Row.Seq==0&&true))) (.k false) (.bn (zb x_.Ag) λr8=>.i (r8) (.k false) (.i (Int.ofNat x_.Ag.length==1) (.i (decide ((0:Int)<=(0:Int))&&decide (0<Int.ofNat x_.Ag.length)) (.bn (zd3 (x_.Ag.getD (Int.toNat 0) default)) λr7=>.k (!r7)) .d) (.k false)))))))) (.i (x_.Kind==4) (.i (!(x_.Row.Table==0&&(x_.Row.Seq==0&&true))) (.k false) (.bn (zb x_.Ag) λr12=>.i (r12) (.k false) (.bn (zc x_.Items) λr11=>.i (Int.ofNat x_.Ag.length==0) (.i (decide (Int.ofNat x_.Items.length>0)) (.i (!r11) (.bn (zb2 x_.Items) λr10=>.i (r10) (.bn (zhX x_.Func x_.Items x_.Op x_.Bd) λr9=>.k r9) (.k false)) (.k false)) (.k false)) (.k false)))) (.i (x_.Func != 0) (.k false) (.i (Int.ofNat x_.Items.length != 0) (.k false) (.i (x_.Op != 0) (.k false) (.i (!(x_.Bd.Kind==0&&(x_.Bd.Int==0&&(x_.Bd.Text.toList==(ByteArray.mk #[]).toList&&true)))) (.k false) (.i (!(x_.Row.Table==0&&(x_.Row.Seq==0&&true))) (.k false) (.bn (zb x_.Ag) λr14=>.i (r14) (.k false) (.k false)))))))))))
def zhH (zc:yD->Bool×Bool) (zb:yA->Bool×Bool) (zd:yB->Bool×Bool) (ze:Wd->Bool×Bool) (x_:At):=(zbV zc zb zd ze x_).fin default
theorem zzx (zc:yD->Bool×Bool) (zb:yA->Bool×Bool) (zd:yB->Bool×Bool) (ze:Wd->Bool×Bool) (v_Row:RowID) (v_Args:yA) (v_Func:Int) (v_Items:yD) (v_Op:Int) (v_Bound:Value)  :ze0 (zct zc zb zd ze) f74 (body f74) ⟨[.pure],[]⟩ [.pure (.agg (base.enc 48 (At.mk (Int.ofNat 0) v_Row v_Args v_Func v_Items v_Op v_Bound)))]=(zbV zc zb zd ze (At.mk (Int.ofNat 0) v_Row v_Args v_Func v_Items v_Op v_Bound)).ev noH (λr=>some (zRi r)) none:=by kernel_rfl
theorem zzr (zc:yD->Bool×Bool) (zb:yA->Bool×Bool) (zd:yB->Bool×Bool) (ze:Wd->Bool×Bool) (v_Row:RowID) (v_Args:yA) (v_Func:Int) (v_Items:yD) (v_Op:Int) (v_Bound:Value)  :ze0 (zct zc zb zd ze) f74 (body f74) ⟨[.pure],[]⟩ [.pure (.agg (base.enc 48 (At.mk (Int.ofNat 1) v_Row v_Args v_Func v_Items v_Op v_Bound)))]=(zbV zc zb zd ze (At.mk (Int.ofNat 1) v_Row v_Args v_Func v_Items v_Op v_Bound)).ev noH (λr=>some (zRi r)) none:=by kernel_rfl
theorem zzc (zc:yD->Bool×Bool) (zb:yA->Bool×Bool) (zd:yB->Bool×Bool) (ze:Wd->Bool×Bool) (v_Row:RowID) (v_Args:yA) (v_Func:Int) (v_Items:yD) (v_Op:Int) (v_Bound:Value)  :ze0 (zct zc zb zd ze) f74 (body f74) ⟨[.pure],[]⟩ [.pure (.agg (base.enc 48 (At.mk (Int.ofNat 2) v_Row v_Args v_Func v_Items v_Op v_Bound)))]=(zbV zc zb zd ze (At.mk (Int.ofNat 2) v_Row v_Args v_Func v_Items v_Op v_Bound)).ev noH (λr=>some (zRi r)) none:=by kernel_rfl
theorem zzV (zc:yD->Bool×Bool) (zb:yA->Bool×Bool) (zd:yB->Bool×Bool) (ze:Wd->Bool×Bool) (v_Row:RowID) (v_Args:yA) (v_Func:Int) (v_Items:yD) (v_Op:Int) (v_Bound:Value)  :ze0 (zct zc zb zd ze) f74 (body f74) ⟨[.pure],[]⟩ [.pure (.agg (base.enc 48 (At.mk (Int.ofNat 3) v_Row v_Args v_Func v_Items v_Op v_Bound)))]=(zbV zc zb zd ze (At.mk (Int.ofNat 3) v_Row v_Args v_Func v_Items v_Op v_Bound)).ev noH (λr=>some (zRi r)) none:=by kernel_rfl
theorem zzd (zc:yD->Bool×Bool) (zb:yA->Bool×Bool) (zd:yB->Bool×Bool) (ze:Wd->Bool×Bool) (v_Row:RowID) (v_Args:yA) (v_Func:Int) (v_Items:yD) (v_Op:Int) (v_Bound:Value)  :ze0 (zct zc zb zd ze) f74 (body f74) ⟨[.pure],[]⟩ [.pure (.agg (base.enc 48 (At.mk (Int.ofNat 4) v_Row v_Args v_Func v_Items v_Op v_Bound)))]=(zbV zc zb zd ze (At.mk (Int.ofNat 4) v_Row v_Args v_Func v_Items v_Op v_Bound)).ev noH (λr=>some (zRi r)) none:=by kernel_rfl
theorem zAe (zc:yD->Bool×Bool) (zb:yA->Bool×Bool) (zd:yB->Bool×Bool) (ze:Wd->Bool×Bool) (n:Nat) (v_Row:RowID) (v_Args:yA) (v_Func:Int) (v_Items:yD) (v_Op:Int) (v_Bound:Value)  :ze0 (zct zc zb zd ze) f74 (body f74) ⟨[.pure],[]⟩ [.pure (.agg (base.enc 48 (At.mk (Int.ofNat (n+5)) v_Row v_Args v_Func v_Items v_Op v_Bound)))]=(zbV zc zb zd ze (At.mk (Int.ofNat (n+5)) v_Row v_Args v_Func v_Items v_Op v_Bound)).ev noH (λr=>some (zRi r)) none:=by kernel_rfl
theorem zzH (zc:yD->Bool×Bool) (zb:yA->Bool×Bool) (zd:yB->Bool×Bool) (ze:Wd->Bool×Bool) (n:Nat) (v_Row:RowID) (v_Args:yA) (v_Func:Int) (v_Items:yD) (v_Op:Int) (v_Bound:Value)  :ze0 (zct zc zb zd ze) f74 (body f74) ⟨[.pure],[]⟩ [.pure (.agg (base.enc 48 (At.mk (Int.negSucc n) v_Row v_Args v_Func v_Items v_Op v_Bound)))]=(zbV zc zb zd ze (At.mk (Int.negSucc n) v_Row v_Args v_Func v_Items v_Op v_Bound)).ev noH (λr=>some (zRi r)) none:=by kernel_rfl
theorem zA7 (zc:yD->Bool×Bool) (zb:yA->Bool×Bool) (zd:yB->Bool×Bool) (ze:Wd->Bool×Bool) (x_:At):ze0 (zct zc zb zd ze) f74 (body f74) ⟨[.pure],[]⟩ [.pure (.agg (base.enc 48 x_))]=(zbV zc zb zd ze x_).ev noH (λr=>some (zRi r)) none:=by
 obtain ⟨v_Kind,v_Row,v_Args,v_Func,v_Items,v_Op,v_Bound⟩:=x_
 match v_Kind with
 | .ofNat 0=>exact zzx zc zb zd ze v_Row v_Args v_Func v_Items v_Op v_Bound 
 | .ofNat 1=>exact zzr zc zb zd ze v_Row v_Args v_Func v_Items v_Op v_Bound 
 | .ofNat 2=>exact zzc zc zb zd ze v_Row v_Args v_Func v_Items v_Op v_Bound 
 | .ofNat 3=>exact zzV zc zb zd ze v_Row v_Args v_Func v_Items v_Op v_Bound 
 | .ofNat 4=>exact zzd zc zb zd ze v_Row v_Args v_Func v_Items v_Op v_Bound 
 | .ofNat (n+5)=>exact zAe zc zb zd ze n v_Row v_Args v_Func v_Items v_Op v_Bound 
 | .negSucc n=>exact zzH zc zb zd ze n v_Row v_Args v_Func v_Items v_Op v_Bound 
theorem zxV (zc:yD->Bool×Bool) (zb:yA->Bool×Bool) (zd:yB->Bool×Bool) (ze:Wd->Bool×Bool) (zkI:SdP 76 (zcm zc)) (zjw:SdP 129 (zb6 zb)) (zeS:SdP 130 (zrO zd)) (zeG:SdP 131 (zcM ze)):SdP 74 (zpJ (zhH zc zb zd ze)):=
 zSd (cx':=(zct zc zb zd ze)) ztY zeA zG5 (zn ⟨zuI,zua,zqX,zpY,ztr,zs8,zkI,zf9,zjw,zeS,zeG,zlj,trivial⟩) call74 func74 (c:=body f74) (by kernel_rfl) (zoE (l:=[]) (by kernel_rfl) trivial) (sg:=⟨[.pure],[]⟩) (A:=zOs) (res:=zRi) (W:=λx=>zbV zc zb zd ze x.1) (z:=default) (λx=>zA7 zc zb zd ze x.1) (λ_=>by kernel_rfl)
def zyO (zbx:yB->Bool×Bool):=zbR base 11 [(31,(zrO zbx))]
def zqO (zbx:yB->Bool×Bool) (a:yB):Wy0 (Bool):=.bn (zbx a) λr0=>.i (!r0) (.k true) (.k (Int.ofNat a.length==0))
def zij (zbx:yB->Bool×Bool) (a:yB):=(zqO zbx a).fin default
theorem zwg (zbx:yB->Bool×Bool) (zre:SdP 31 (zrO zbx)):SdP 130 (zrO (zij zbx)):=
 sT (cx':=(zyO zbx)) (zn ⟨zre,trivial⟩) call130 func130 (lOK aN)
def zyC (zbx:yB->Bool×Bool):=zbR base 13 [(31,(zrO zbx))]
def zqR (zbx:yB->Bool×Bool) (w:Wd):Wy0 (Bool):=.bn (zbx w.Ann) λr0=>.i (!r0) (.k true) (.k (Int.ofNat w.Ann.length==0))
def zio (zbx:yB->Bool×Bool) (w:Wd):=(zqR zbx w).fin default
theorem zwf (zbx:yB->Bool×Bool) (zre:SdP 31 (zrO zbx)):SdP 131 (zcM (zio zbx)):=
 sT (cx':=(zyC zbx)) (zn ⟨zre,trivial⟩) call131 func131 (lOK aN)
def zjj (zd:yB->Bool×Bool) (zV:yA->Bool×Int):=zbR base 9 [(130,(zrO zd)),(163,(zce zV))]
def zef (zd:yB->Bool×Bool) (zV:yA->Bool×Int) (s:yA):Wy0 (Bool):=.bn (zV s) λr0=>.k (decide (r0≥0))
def zb5 (zd:yB->Bool×Bool) (zV:yA->Bool×Int) (s:yA):=(zef zd zV s).fin default
theorem ziy (zd:yB->Bool×Bool) (zV:yA->Bool×Int) (zeS:SdP 130 (zrO zd)) (zkE:SdP 163 (zce zV)):SdP 129 (zb6 (zb5 zd zV)):=
 sT (cx':=(zjj zd zV)) (zn ⟨zeS,zkE,trivial⟩) call129 func129 (lOK aN)
def zkm (ze:Wd->Bool×Bool) (zZ:yD->Bool×Int):=zbR base 9 [(131,(zcM ze)),(135,(zcA zZ))]
def ze4 (ze:Wd->Bool×Bool) (zZ:yD->Bool×Int) (s:yD):Wy0 (Bool):=.bn (zZ s) λr0=>.k (decide (r0≥0))
def zcl (ze:Wd->Bool×Bool) (zZ:yD->Bool×Int) (s:yD):=(ze4 ze zZ s).fin default
theorem zjH (ze:Wd->Bool×Bool) (zZ:yD->Bool×Int) (zeG:SdP 131 (zcM ze)) (zmk:SdP 135 (zcA zZ)):SdP 76 (zcm (zcl ze zZ)):=
 sT (cx':=(zkm ze zZ)) (zn ⟨zeG,zmk,trivial⟩) call76 func76 (lOK aN)
abbrev zcz:=yA×Unit×Int×Int×Unit
def zj0 (zd:yB->Bool×Bool) (s:yA) (t7:Int) (t8:Int):Wy zcz Unit (Int⊕Unit):=.i (decide (t8<t7)) (.i (decide (0<=t8)&&decide (t8<Int.ofNat s.length)) (.bn (zd (s.getD t8.toNat default)) λr0=>.i (r0) (.k (.inl t8)) (.h (s,(),t7,(IntKind.i64.wrap (t8+1)),()) ())) .d) (.k (.inr ()))
def zeD (zd:yB->Bool×Bool) (x:zcz) (y:Unit):=zj0 zd x.1 x.2.2.1 x.2.2.2.1
def zjU (zd:yB->Bool×Bool) (n:Nat) (s:yA) (t7:Int) (t8:Int):=zN (zeD zd) (.inl default) n (s,(),t7,t8,()) ()
def zj2:LL ty zcz:=za (lSl 23) (za (lFn 130 (zr)) (za zm (za zm zr)))
def zjR (x:zcz) (y:Unit):Nat:=(x.1.length+Int.toNat x.2.2.1+Int.toNat x.2.2.2.1+1)
def zeC (zd:yB->Bool×Bool):=zcC base 19 [(130,(zrO zd))] [] [(2,(kpL [0,1,7,8]))] [(2,1,[]),(2,0,(kpL [4]))] [(2,spW zj2 zQf (zeD zd) (.inl default) zoj zjR)] []
theorem zjN (zd:yB->Bool×Bool):zR (zeC zd) (lp (body f163) 0):=zD (id:=2) (hl:=rfl)
def zko (zd:yB->Bool×Bool) (s:yA):Wy0 (Int):=.bn (zjU zd (s.length+(Int.ofNat s.length).toNat +Int.toNat 0+1) s (Int.ofNat s.length) 0) λr2=>.i (isL r2) (.k (getL r2)) (.k (-1:Int))
def zcg (zd:yB->Bool×Bool) (s:yA):=(zko zd s).fin default
theorem zjh (zd:yB->Bool×Bool) (zeS:SdP 130 (zrO zd)):SdP 163 (zce (zcg zd)):=
 sT (cx':=(zeC zd)) (zn ⟨zeS,trivial⟩) call163 func163 (lOK (aC (zjN zd) aN))
abbrev zcS:=yD×Unit×Int×Int×Unit
def zlx (ze:Wd->Bool×Bool) (s:yD) (t7:Int) (t8:Int):Wy zcS Unit (Int⊕Unit):=.i (decide (t8<t7)) (.i (decide (0<=t8)&&decide (t8<Int.ofNat s.length)) (.bn (ze (s.getD t8.toNat default)) λr0=>.i (r0) (.k (.inl t8)) (.h (s,(),t7,(IntKind.i64.wrap (t8+1)),()) ())) .d) (.k (.inr ()))
def zfx (ze:Wd->Bool×Bool) (x:zcS) (y:Unit):=zlx ze x.1 x.2.2.1 x.2.2.2.1
def zlq (ze:Wd->Bool×Bool) (n:Nat) (s:yD) (t7:Int) (t8:Int):=zN (zfx ze) (.inl default) n (s,(),t7,t8,()) ()
def zlA:LL ty zcS:=za (lSl 52) (za (lFn 131 (zr)) (za zm (za zm zr)))
def zk9 (x:zcS) (y:Unit):Nat:=(x.1.length+Int.toNat x.2.2.1+Int.toNat x.2.2.2.1+1)
def zfv (ze:Wd->Bool×Bool):=zcC base 19 [(131,(zcM ze))] [] [(2,(kpL [0,1,7,8]))] [(2,1,[]),(2,0,(kpL [4]))] [(2,spW zlA zQf (zfx ze) (.inl default) zoj zk9)] []
theorem zlg (ze:Wd->Bool×Bool):zR (zfv ze) (lp (body f135) 0):=zD (id:=2) (hl:=rfl)
def zmb (ze:Wd->Bool×Bool) (s:yD):Wy0 (Int):=.bn (zlq ze (s.length+(Int.ofNat s.length).toNat +Int.toNat 0+1) s (Int.ofNat s.length) 0) λr2=>.i (isL r2) (.k (getL r2)) (.k (-1:Int))
def zcy (ze:Wd->Bool×Bool) (s:yD):=(zmb ze s).fin default
theorem zkp (ze:Wd->Bool×Bool) (zeG:SdP 131 (zcM ze)):SdP 135 (zcA (zcy ze)):=
 sT (cx':=(zfv ze)) (zn ⟨zeG,trivial⟩) call135 func135 (lOK (aC (zlg ze) aN))
def zdq:Nat->(yB->Bool×Bool)×(At->Bool×Bool)×(yB->Bool×Bool)×(Wd->Bool×Bool)×(yA->Bool×Int)×(yA->Bool×Bool)×(yD->Bool×Int)×(yD->Bool×Bool)
 | 0=>(λ_=>(false,default),λ_=>(false,default),λ_=>(false,default),λ_=>(false,default),λ_=>(false,default),λ_=>(false,default),λ_=>(false,default),λ_=>(false,default))
 | n+1=>(zkA ((zdq n).2.1),zhH ((zdq n).2.2.2.2.2.2.2) ((zdq n).2.2.2.2.2.1) ((zdq n).2.2.1) ((zdq n).2.2.2.1),zij ((zdq n).1),zio ((zdq n).1),zcg ((zdq n).2.2.1),zb5 ((zdq n).2.2.1) ((zdq n).2.2.2.2.1),zcy ((zdq n).2.2.2.1),zcl ((zdq n).2.2.2.1) ((zdq n).2.2.2.2.2.2.1))
def zh6 (n:Nat):yB->Bool×Bool:=(zdq n).1
def zj4 (n:Nat):At->Bool×Bool:=(zdq n).2.1
def zd5 (n:Nat):yB->Bool×Bool:=(zdq n).2.2.1
def zea (n:Nat):Wd->Bool×Bool:=(zdq n).2.2.2.1
def zcf (n:Nat):yA->Bool×Int:=(zdq n).2.2.2.2.1
def zb4 (n:Nat):yA->Bool×Bool:=(zdq n).2.2.2.2.2.1
def zcx (n:Nat):yD->Bool×Int:=(zdq n).2.2.2.2.2.2.1
def zci (n:Nat):yD->Bool×Bool:=(zdq n).2.2.2.2.2.2.2
theorem zH9 (n:Nat):zh6 (n+1)=zkA (zj4 n):=rfl
theorem zCb (n:Nat):zj4 (n+1)=zhH (zci n) (zb4 n) (zd5 n) (zea n):=rfl
theorem zyQ (n:Nat):zd5 (n+1)=zij (zh6 n):=rfl
theorem zx6 (n:Nat):zea (n+1)=zio (zh6 n):=rfl
theorem zj5 (n:Nat):zcf (n+1)=zcg (zd5 n):=rfl
theorem zjo (n:Nat):zb4 (n+1)=zb5 (zd5 n) (zcf n):=rfl
theorem zlu (n:Nat):zcx (n+1)=zcy (zea n):=rfl
theorem zke (n:Nat):zci (n+1)=zcl (zea n) (zcx n):=rfl
theorem zO8:∀ n,SdP 31 (zrO (zh6 n))/\SdP 74 (zpJ (zj4 n))/\SdP 130 (zrO (zd5 n))/\SdP 131 (zcM (zea n))/\SdP 163 (zce (zcf n))/\SdP 129 (zb6 (zb4 n))/\SdP 135 (zcA (zcx n))/\SdP 76 (zcm (zci n))
 | 0=>⟨zbd call31 (λ_=>rfl),zbd call74 (λ_=>rfl),zbd call130 (λ_=>rfl),zbd call131 (λ_=>rfl),zbd call163 (λ_=>rfl),zbd call129 (λ_=>rfl),zbd call135 (λ_=>rfl),zbd call76 (λ_=>rfl)⟩
 | n+1=>by
  have ih:=zO8 n;exact ⟨zDD _ (ih.2.1),zxV _ _ _ _ (ih.2.2.2.2.2.2.2) (ih.2.2.2.2.2.1) (ih.2.2.1) (ih.2.2.2.1),zwg _ (ih.1),zwf _ (ih.1),zjh _ (ih.2.2.1),ziy _ _ (ih.2.2.1) (ih.2.2.2.2.1),zkp _ (ih.2.2.2.1),zjH _ _ (ih.2.2.2.1) (ih.2.2.2.2.2.2.1)⟩
def zb8:yB->Bool×Bool:=zh6 1000
def zcp:Ab.Spec ty:=zrO zb8
theorem zcw:SdP 31 zcp:=(zO8 1000).1
def zvt:=zbR base 7 []
def zwm (f:Fc):Wy0 (Bool):=.k (f.At.Kind != 0)
def zgb (f:Fc):=(zwm f).fin default
def zen:=zi zBQ λx=>((zgb x.1).1,zRi (zgb x.1).2)
theorem zgK:SdP 108 zen:=
 sT (cx':=zvt) (zn trivial) call108 func108 (lOK aN)
abbrev zdn:=yC×Unit×Int×Int×Unit
def zdT (s:yC) (t7:Int) (t8:Int):Wy zdn Unit (Int⊕Unit):=.i (decide (t8<t7)) (.i (decide (0<=t8)&&decide (t8<Int.ofNat s.length)) (.i ((zgb (FO.mk (At.mk (s.getD t8.toNat default).At.Kind (s.getD t8.toNat default).At.Row (s.getD t8.toNat default).At.Ag (s.getD t8.toNat default).At.Func (s.getD t8.toNat default).At.Items (s.getD t8.toNat default).At.Op (s.getD t8.toNat default).At.Bd) (s.getD t8.toNat default).Exp)).2) (.k (.inl t8)) (.h (s,(),t7,(IntKind.i64.wrap (t8+1)),()) ())) .d) (.k (.inr ()))
def zdU (x:zdn) (y:Unit):=zdT x.1 x.2.2.1 x.2.2.2.1
def zhv (n:Nat) (s:yC) (t7:Int) (t8:Int):=zN (zdU) (.inl default) n (s,(),t7,t8,()) ()
def zo6:LL ty zdn:=za (lSl 50) (za (lFn 108 (zr)) (za zm (za zm zr)))
def znU (x:zdn) (y:Unit):Nat:=(x.1.length+Int.toNat x.2.2.1+Int.toNat x.2.2.2.1+1)
def zhs:=zcC base 19 [(108,zen)] [] [(2,(kpL [0,1,7,8]))] [(2,1,[]),(2,0,(kpL [4]))] [(2,spW zo6 zQf (zdU) (.inl default) zoj znU)] []
theorem zn1:zR zhs (lp (body f150) 0):=zD (id:=2) (hl:=rfl)
def zhM (s:yC):Wy0 (Int):=.bn (zhv (s.length+(Int.ofNat s.length).toNat +Int.toNat 0+1) s (Int.ofNat s.length) 0) λr0=>.i (isL r0) (.k (getL r0)) (.k (-1:Int))
def zc6 (s:yC):=(zhM s).fin default
def zpr:AL base (yC×Unit×Unit):=zf (zg (vSl 50)) (zf (zg (vFn 108 zcQ)) zF)
def zdF:=zi zpr λx=>((zc6 x.1).1,zRK (zc6 x.1).2)
theorem zge:SdP 150 zdF:=
 sT (cx':=zhs) (zn ⟨zgK,trivial⟩) call150 func150 (lOK (aC zn1 aN))
def znj:=zbR base 9 [(108,zen),(150,(zCy zdF zdF))]
def zgD (s:yC):Wy0 (Bool):=.bn (zc6 s) λr0=>.k (decide (r0≥0))
def zca (s:yC):=(zgD s).fin default
def zfK:=zi zpr λx=>((zca x.1).1,zRi (zca x.1).2)
theorem zln:SdP 107 zfK:=
 sT (cx':=znj) (zn ⟨zgK,(Sound.or (zge) (zge)),trivial⟩) call107 func107 (lOK aN)
def zxz:=zbR base 6 [(107,zfK),(108,zen)]
def zpW (t:Term):Wy0 (Bool):=.bn (zca t.Fs) λr0=>.k r0
def ze5 (t:Term):=(zpW t).fin default
def zfe:=zi zF7 λx=>((ze5 x.1).1,zRi (ze5 x.1).2)
theorem zhV:SdP 106 zfe:=
 sT (cx':=zxz) (zn ⟨zln,zgK,trivial⟩) call106 func106 (lOK aN)
abbrev zdg:=yB×Unit×Int×Int×Unit
def zdJ (s:yB) (t7:Int) (t8:Int):Wy zdg Unit (Int⊕Unit):=.i (decide (t8<t7)) (.i (decide (0<=t8)&&decide (t8<Int.ofNat s.length)) (.bn (ze5 (s.getD t8.toNat default)) λr0=>.i (r0) (.k (.inl t8)) (.h (s,(),t7,(IntKind.i64.wrap (t8+1)),()) ())) .d) (.k (.inr ()))
def zdI (x:zdg) (y:Unit):=zdJ x.1 x.2.2.1 x.2.2.2.1
def zgV (n:Nat) (s:yB) (t7:Int) (t8:Int):=zN (zdI) (.inl default) n (s,(),t7,t8,()) ()
def zoh:LL ty zdg:=za (lSl 42) (za (lFn 106 (zr)) (za zm (za zm zr)))
def znF (x:zdg) (y:Unit):Nat:=(x.1.length+Int.toNat x.2.2.1+Int.toNat x.2.2.2.1+1)
def zgW:=zcC base 19 [(106,zfe)] [] [(2,(kpL [0,1,7,8]))] [(2,1,[]),(2,0,(kpL [4]))] [(2,spW zoh zQf (zdI) (.inl default) zoj znF)] []
theorem znv:zR zgW (lp (body f149) 0):=zD (id:=2) (hl:=rfl)
def zhr (s:yB):Wy0 (Int):=.bn (zgV (s.length+(Int.ofNat s.length).toNat +Int.toNat 0+1) s (Int.ofNat s.length) 0) λr2=>.i (isL r2) (.k (getL r2)) (.k (-1:Int))
def zc0 (s:yB):=(zhr s).fin default
def zoB:AL base (yB×Unit×Unit):=zf (zg (vSl 42)) (zf (zg (vFn 106 zcQ)) zF)
def zdw:=zi zoB λx=>((zc0 x.1).1,zRK (zc0 x.1).2)
theorem zf8:SdP 149 zdw:=
 sT (cx':=zgW) (zn ⟨zhV,trivial⟩) call149 func149 (lOK (aC znv aN))
def zmD:=zbR base 9 [(106,zfe),(149,(zCy zdw zdw))]
def zgv (s:yB):Wy0 (Bool):=.bn (zc0 s) λr0=>.k (decide (r0≥0))
def zb3 (s:yB):=(zgv s).fin default
def zfr:=zi zoB λx=>((zb3 x.1).1,zRi (zb3 x.1).2)
theorem zll:SdP 105 zfr:=
 sT (cx':=zmD) (zn ⟨zhV,(Sound.or (zf8) (zf8)),trivial⟩) call105 func105 (lOK aN)
def zAK:=zbR base 6 [(105,zfr),(106,zfe)]
def zsK (a:yB):Wy0 (Bool):=.bn (zb3 a) λr0=>.k (!r0)
def zg8 (a:yB):=(zsK a).fin default
def zqs:=zi zT8 λx=>((zg8 x.1).1,zRi (zg8 x.1).2)
theorem zxs:SdP 49 zqs:=
 sT (cx':=zAK) (zn ⟨zll,zhV,trivial⟩) call49 func49 (lOK aN)
def zAD:Cx ty:=zcC base 11 [] [] [] [] [] []
def zl0 (x_:At) (out_:yE):Wy0 (yE):=.i (x_.Kind==(0:Int)) (.i (decide ((out_.length+[x_.Row].length)*(16:Nat)<=zbO)) (.k (out_++[x_.Row])) .d) (.k out_)
def zg7 (x_:At) (out_:yE):Bool×yE:=(zl0 x_ out_).fin default
def zsM:VL base (At×Unit):=zpI (zdh 48) zcQ
def zjQ:CSpec ty:=mkC none zsM 25 λx l=>zg7 x.1 l
theorem zps:SoundC Tryz.prog base 98 zjQ:=
 zUU (cx:=base) (cx':=zAD) ztY zeA zG5 (zn trivial) call98 func98 (c:=body f98) (by kernel_rfl) (zoE (l:=[]) (by kernel_rfl) trivial) (g0:=none) (A:=zsM) (T:=25) (W:=λx l=>zl0 x.1 l) (z:=default) (λx l=>by kernel_rfl) (λ_=>by kernel_rfl) (by kernel_rfl)
def zy5:VL base (yB×Unit):=zpI (vSl 42) zcQ
def zh5 (F:yB->yE->Bool×yE):CSpec ty:=mkC (some 98) zy5 25 λx l=>F x.1 l
end Go.Proofs.YtnolcogncjijpaaGreatDoor
end
