/- Texts of this claim, joined (the program, its functions in plain words, and what they compute). -/
import Derived.Test.YtljlfiomikifjaaGreatDoorGC5
set_option autoImplicit false
set_option linter.unusedVariables false
set_option linter.unusedSectionVars false
set_option linter.unusedSimpArgs false
set_option maxRecDepth 1000000
set_option maxHeartbeats 0
noncomputable section
namespace Go.Proofs.YtljlfiomikifjaaGreatDoor
open Go Go.Ab
open Go.Proofs.Tryz
abbrev zl5:=yC×Int×Int×Int×Unit×Int×Unit
abbrev zYh:=yC×Int×Int×Int×At
abbrev zYk:=yC×Int×Int×Int
abbrev zEg:=yC×Int×Int×Int×Unit
abbrev zXX:=yC×Int×Int
abbrev zEn:=yC×Int×Int×Unit
def zrz (zV:yC->Bool×Int) (a:yC) (n_:Int) (i:Int) (k:Int) (j:Int) (x_:At):Wy zl5 (At×Unit) zYh:=.i (decide (j<Int.ofNat x_.Ag.length)) (.i (decide (0<=j)&&decide (j<Int.ofNat x_.Ag.length)) (.bn (zV (x_.Ag.getD j.toNat default)) λr0=>.h (a,(IntKind.i64.wrap (n_+r0)),i,k,(),(IntKind.i64.wrap (j+1)),()) (x_,())) .d) (.k (a,n_,i,k,x_))
def zEv (zV:yC->Bool×Int) (x:zl5) (y:At×Unit):=zrz zV x.1 x.2.1 x.2.2.1 x.2.2.2.1 x.2.2.2.2.2.1 y.1
def zOM (zV:yC->Bool×Int) (n:Nat) (a:yC) (n_:Int) (i:Int) (k:Int) (j:Int) (x_:At):=zy (zEv zV) default n (a,n_,i,k,(),j,()) (x_,())
def z4d (r:zYh):LTree ty:=.done (.exit 4) [.sl 28 r.1,.lit (.int .i64 r.2.1),.lit (.int .i64 r.2.2.1),.lit (.int .i64 r.2.2.2.1),.ptr 284 0] [.box (base.enc 67 r.2.2.2.2) false]
def z6A:LL ty zl5:=za (lSl 28) (za zj (za zj (za zj (za (zdR 284 0) (za zj zk)))))
def zrF (zV:yC->Bool×Int) (a:yC) (n_:Int) (i:Int) (k:Int) (j:Int) (x_:At):Wy zl5 (At×Unit) zYk:=.i (decide (j<Int.ofNat x_.Items.length)) (.i (decide (0<=j)&&decide (j<Int.ofNat x_.Items.length)) (.bn (zV (x_.Items.getD j.toNat default).Ann) λr2=>.h (a,(IntKind.i64.wrap (IntKind.i64.wrap (n_+1)+r2)),i,k,(),(IntKind.i64.wrap (j+1)),()) (x_,())) .d) (.k (a,n_,i,k))
def zE0 (zV:yC->Bool×Int) (x:zl5) (y:At×Unit):=zrF zV x.1 x.2.1 x.2.2.1 x.2.2.2.1 x.2.2.2.2.2.1 y.1
def zOP (zV:yC->Bool×Int) (n:Nat) (a:yC) (n_:Int) (i:Int) (k:Int) (j:Int) (x_:At):=zy (zE0 zV) default n (a,n_,i,k,(),j,()) (x_,())
def z3O (r:zYk):LTree ty:=.done (.exit 6) [.sl 28 r.1,.lit (.int .i64 r.2.1),.lit (.int .i64 r.2.2.1),.lit (.int .i64 r.2.2.2)] []
def zuC (zV:yC->Bool×Int) (a:yC) (n_:Int) (i:Int) (k:Int):Wy zEg Unit zXX:=.i (decide (0<=i)&&decide (i<Int.ofNat a.length)) (.i (decide (k<Int.ofNat (a.getD i.toNat default).Fs.length)) (.i (decide (0<=i)&&decide (i<Int.ofNat a.length)) (.i (decide (0<=k)&&decide (k<Int.ofNat (a.getD i.toNat default).Fs.length)) (.bn (zOM zV ((a.length+(IntKind.i64.wrap (n_+1)).toNat +i.toNat +k.toNat +Int.toNat 0+((a.getD i.toNat default).Fs.getD k.toNat default).At.Ag.length+((a.getD i.toNat default).Fs.getD k.toNat default).At.Items.length+1)+zbV a) a (IntKind.i64.wrap (n_+1)) i k 0 (At.mk ((a.getD i.toNat default).Fs.getD k.toNat default).At.Kind ((a.getD i.toNat default).Fs.getD k.toNat default).At.Row ((a.getD i.toNat default).Fs.getD k.toNat default).At.Ag ((a.getD i.toNat default).Fs.getD k.toNat default).At.Func ((a.getD i.toNat default).Fs.getD k.toNat default).At.Items ((a.getD i.toNat default).Fs.getD k.toNat default).At.Op ((a.getD i.toNat default).Fs.getD k.toNat default).At.Bd)) λr5=>.bn (zOP zV ((r5.1.length+r5.2.1.toNat +r5.2.2.1.toNat +r5.2.2.2.1.toNat +Int.toNat 0+r5.2.2.2.2.Ag.length+r5.2.2.2.2.Items.length+1)+zbV r5.1) r5.1 r5.2.1 r5.2.2.1 r5.2.2.2.1 0 (At.mk r5.2.2.2.2.Kind r5.2.2.2.2.Row r5.2.2.2.2.Ag r5.2.2.2.2.Func r5.2.2.2.2.Items r5.2.2.2.2.Op r5.2.2.2.2.Bd)) λr4=>.h ((r4.1),(r4.2.1),(r4.2.2.1),(IntKind.i64.wrap (r4.2.2.2+1)),()) ()) .d) .d) (.k (a,n_,i))) .d
def zGr (zV:yC->Bool×Int) (x:zEg) (y:Unit):=zuC zV x.1 x.2.1 x.2.2.1 x.2.2.2.1
def zR5 (zV:yC->Bool×Int) (n:Nat) (a:yC) (n_:Int) (i:Int) (k:Int):=zy (zGr zV) default n (a,n_,i,k,()) ()
def z7f (r:zXX):LTree ty:=.done (.exit 2) [.sl 28 r.1,.lit (.int .i64 r.2.1),.lit (.int .i64 r.2.2)] []
def z7M:LL ty zEg:=za (lSl 28) (za zj (za zj (za zj zk)))
def zus (zV:yC->Bool×Int) (a:yC) (n_:Int) (i:Int):Wy zEn Unit (Int):=.i (decide (i<Int.ofNat a.length)) (.bn (zR5 zV ((a.length+(IntKind.i64.wrap (n_+1)).toNat +i.toNat +Int.toNat 0+1)+zbV a) a (IntKind.i64.wrap (n_+1)) i 0) λr8=>.h ((r8.1),(r8.2.1),(IntKind.i64.wrap (r8.2.2+1)),()) ()) (.k n_)
def zF9 (zV:yC->Bool×Int) (x:zEn) (y:Unit):=zus zV x.1 x.2.1 x.2.2.1
def zRH (zV:yC->Bool×Int) (n:Nat) (a:yC) (n_:Int) (i:Int):=zy (zF9 zV) default n (a,n_,i,()) ()
def z9A:LL ty zEn:=za (lSl 28) (za zj (za zj zk))
def z3X (x:zl5) (y:At×Unit):Nat:=((x.1.length+Int.toNat x.2.1+Int.toNat x.2.2.1+Int.toNat x.2.2.2.1+Int.toNat x.2.2.2.2.2.1+y.1.Ag.length+y.1.Items.length+1)+zbV x.1)
def z6l (x:zEg) (y:Unit):Nat:=((x.1.length+Int.toNat x.2.1+Int.toNat x.2.2.1+Int.toNat x.2.2.2.1+1)+zbV x.1)
def z6O (x:zEn) (y:Unit):Nat:=((x.1.length+Int.toNat x.2.1+Int.toNat x.2.2.1+1)+zbV x.1)
def zuf (zV:yC->Bool×Int):=zbY base 71 [(109,(zpi zV))] [] [(3,(kpL [0,3,4])),(7,(kpL [0,3,4,5])),(12,(kpL [0,3,4,5,6,7])),(16,(kpL [0,3,4,5,6,8]))] [(3,1,(kpL [3])),(7,3,(kpL [0,3,4])),(12,5,(kpL [0,3,4,5,6])),(16,7,(kpL [0,3,4,5]))] [(12,spW z6A zZu (zEv zV) default z4d z3X),(16,spW z6A zZu (zE0 zV) default z3O z3X),(7,spW z7M zbcZ (zGr zV) default z7f z6l),(3,spW z9A zbcZ (zF9 zV) default zUy z6O)] []
theorem z4Q (zV:yC->Bool×Int):zA (zuf zV) (lp (body f109) 2):=zp (id:=12) (hl:=rfl)
theorem z4l (zV:yC->Bool×Int):zA (zuf zV) (lp (body f109) 3):=zp (id:=16) (hl:=rfl)
theorem z7t (zV:yC->Bool×Int):zA (zuf zV) (lp (body f109) 1):=zp (id:=7) (hl:=rfl)
theorem z7c (zV:yC->Bool×Int):zA (zuf zV) (lp (body f109) 0):=zp (id:=3) (hl:=rfl)
def zUB (zV:yC->Bool×Int) (a:yC):Wy0 (Int):=.bn (zRH zV ((a.length+Int.toNat 0+Int.toNat 0+1)+zbV a) a 0 0) λr10=>.k r10
def zGe (zV:yC->Bool×Int) (a:yC):=(zUB zV a).fin default
theorem z1V (zV:yC->Bool×Int) (zbaL:SdP 109 (zpi zV)):SdP 109 (zpi (zGe zV)):=
 sT (cx':=(zuf zV)) (zi ⟨zbaL,trivial⟩) call109 func109 (lOK (aC (z7c zV) (aC (z7t zV) (aC (z4Q zV) (aC (z4l zV) aN)))))
def zbbz:Nat->(yC->Bool×Int)
 | 0=>λ_=>(false,default)
 | n+1=>zGe (zbbz n)
def zwW (n:Nat):yC->Bool×Int:=zbbz n
theorem z8C (n:Nat):zwW (n+1)=zGe (zwW n):=rfl
theorem z5d:∀ n,SdP 109 (zpi (zwW n))
 | 0=>z8 call109 (λ_=>rfl)
 | n+1=>by
  have ih:=z5d n;exact z1V _ (ih)
def zVP:yC->Bool×Int:=zwW 1000
def zRu:Ab.Spec ty:=zpi zVP
theorem z59:SdP 109 zRu:=(z5d 1000)
abbrev zEi:=yC×Int×Int×Unit
abbrev zYl:=Bool⊕(yC×Int)
abbrev zEu:=yC×Int×Unit
def zza (a:yC) (i:Int) (k:Int):Wy zEi Unit zYl:=.i (decide (0<=i)&&decide (i<Int.ofNat a.length)) (.i (decide (k<Int.ofNat (a.getD i.toNat default).Fs.length)) (.i (decide (0<=i)&&decide (i<Int.ofNat a.length)) (.i (decide (0<=k)&&decide (k<Int.ofNat (a.getD i.toNat default).Fs.length)) (.i (decide (((a.getD i.toNat default).Fs.getD k.toNat default).Exp>64)) (.k (.inl false)) (.i (decide (0<=i)&&decide (i<Int.ofNat a.length)) (.i (decide (0<=k)&&decide (k<Int.ofNat (a.getD i.toNat default).Fs.length)) (.i (decide (Int.ofNat ((a.getD i.toNat default).Fs.getD k.toNat default).At.Items.length>1024)) (.k (.inl false)) (.h (a,i,(IntKind.i64.wrap (k+1)),()) ())) .d) .d)) .d) .d) (.k (.inr (a,i)))) .d
def zMf (x:zEi) (y:Unit):=zza x.1 x.2.1 x.2.2.1
def zYo (n:Nat) (a:yC) (i:Int) (k:Int):=zy (zMf) (.inl default) n (a,i,k,()) ()
def zbaz (r:zYl):LTree ty:=.ite (isL r) (.done .ret [.lit (.bool (getL r))] []) (.done (.exit 2) [.sl 28 (getR r).1,.lit (.int .i64 (getR r).2)] [])
def zbdf:LL ty zEi:=za (lSl 28) (za zj (za zj zk))
def zzo (a:yC) (i:Int):Wy zEu Unit (Bool⊕Unit):=.i (decide (i<Int.ofNat a.length)) (.i (decide (0<=i)&&decide (i<Int.ofNat a.length)) (.i (decide (Int.ofNat (a.getD i.toNat default).Fs.length>64)) (.k (.inl false)) (.bn (zYo ((a.length+i.toNat +Int.toNat 0+1)+zbV a) a i 0) λr0=>.i (isL r0) (.k (.inl (getL r0))) (.h ((getR r0).1,(IntKind.i64.wrap ((getR r0).2+1)),()) ()))) .d) (.k (.inr ()))
def zLW (x:zEu) (y:Unit):=zzo x.1 x.2.1
def zYa (n:Nat) (a:yC) (i:Int):=zy (zLW) (.inl default) n (a,i,()) ()
def zbcM:LL ty zEu:=za (lSl 28) (za zj zk)
def zbaQ (x:zEi) (y:Unit):Nat:=((x.1.length+Int.toNat x.2.1+Int.toNat x.2.2.1+1)+zbV x.1)
def zban (x:zEu) (y:Unit):Nat:=((x.1.length+Int.toNat x.2.1+1)+zbV x.1)
def zLD:=zbY base 65 [(108,zKb),(109,zRu)] [] [(4,(kpL [0,3])),(9,(kpL [0,3,4]))] [(4,1,[]),(4,0,(kpL [2])),(9,3,(kpL [0,3])),(9,0,(kpL [2]))] [(9,spW zbdf zbcZ (zMf) (.inl default) zbaz zbaQ),(4,spW zbcM zbcZ (zLW) (.inl default) zSy zban)] []
theorem zba4:zA zLD (lp (body f54) 1):=zp (id:=9) (hl:=rfl)
theorem zbbj:zA zLD (lp (body f54) 0):=zp (id:=4) (hl:=rfl)
def z1J (a:yC):Wy0 (Bool):=.i (decide (Int.ofNat a.length>512)) (.k false) (.bn (zMp a) λr4=>.i (decide (r4>8)) (.k false) (.bn (zVP a) λr3=>.i (decide (r3>4096)) (.k false) (.bn (zYa ((a.length+Int.toNat 0+1)+zbV a) a 0) λr2=>.i (isL r2) (.k (getL r2)) (.k true))))
def zCD (a:yC):=(z1J a).fin default
def zHb:=zh z2g λx=>((zCD x.1).1,zYA (zCD x.1).2)
theorem zOl:SdP 54 zHb:=
 sT (cx':=zLD) (zi ⟨zY1,z59,trivial⟩) call54 func54 (lOK (aC zbbj (aC zba4 aN)))
abbrev zCr:=yC×Int×Unit×Int×Unit
abbrev zUF:=Bool⊕(yC×Int)
abbrev zCE:=yC×Int×Unit
def zpj (zZ:At->Bool×Bool) (a:yC) (i:Int) (k:Int) (t:Term):Wy zCr (Term×Unit) zUF:=.i (decide (k<Int.ofNat t.Fs.length)) (.i (decide (0<=k)&&decide (k<Int.ofNat t.Fs.length)) (.i (decide ((t.Fs.getD k.toNat default).Exp<1)) (.k (.inl false)) (.i (decide ((t.Fs.getD k.toNat default).Exp>1)) (.i (decide ((t.Fs.getD k.toNat default).At.Kind≥3)) (.k (.inl false)) (.bn (zZ (At.mk (t.Fs.getD k.toNat default).At.Kind (t.Fs.getD k.toNat default).At.Row (t.Fs.getD k.toNat default).At.Ag (t.Fs.getD k.toNat default).At.Func (t.Fs.getD k.toNat default).At.Items (t.Fs.getD k.toNat default).At.Op (t.Fs.getD k.toNat default).At.Bd)) λr1=>.i (!r1) (.k (.inl false)) (.i (decide (k>0)) (.i (decide (0<=IntKind.i64.wrap (k - 1))&&decide (IntKind.i64.wrap (k - 1)<Int.ofNat t.Fs.length)) (.bn (zju (At.mk (t.Fs.getD (IntKind.i64.wrap (k - 1)).toNat default).At.Kind (t.Fs.getD (IntKind.i64.wrap (k - 1)).toNat default).At.Row (t.Fs.getD (IntKind.i64.wrap (k - 1)).toNat default).At.Ag (t.Fs.getD (IntKind.i64.wrap (k - 1)).toNat default).At.Func (t.Fs.getD (IntKind.i64.wrap (k - 1)).toNat default).At.Items (t.Fs.getD (IntKind.i64.wrap (k - 1)).toNat default).At.Op (t.Fs.getD (IntKind.i64.wrap (k - 1)).toNat default).At.Bd) (At.mk (t.Fs.getD k.toNat default).At.Kind (t.Fs.getD k.toNat default).At.Row (t.Fs.getD k.toNat default).At.Ag (t.Fs.getD k.toNat default).At.Func (t.Fs.getD k.toNat default).At.Items (t.Fs.getD k.toNat default).At.Op (t.Fs.getD k.toNat default).At.Bd)) λr0=>.i (decide (r0≥0)) (.k (.inl false)) (.h (a,i,(),(IntKind.i64.wrap (k+1)),()) (t,()))) .d) (.h (a,i,(),(IntKind.i64.wrap (k+1)),()) (t,()))))) (.bn (zZ (At.mk (t.Fs.getD k.toNat default).At.Kind (t.Fs.getD k.toNat default).At.Row (t.Fs.getD k.toNat default).At.Ag (t.Fs.getD k.toNat default).At.Func (t.Fs.getD k.toNat default).At.Items (t.Fs.getD k.toNat default).At.Op (t.Fs.getD k.toNat default).At.Bd)) λr3=>.i (!r3) (.k (.inl false)) (.i (decide (k>0)) (.i (decide (0<=IntKind.i64.wrap (k - 1))&&decide (IntKind.i64.wrap (k - 1)<Int.ofNat t.Fs.length)) (.bn (zju (At.mk (t.Fs.getD (IntKind.i64.wrap (k - 1)).toNat default).At.Kind (t.Fs.getD (IntKind.i64.wrap (k - 1)).toNat default).At.Row (t.Fs.getD (IntKind.i64.wrap (k - 1)).toNat default).At.Ag (t.Fs.getD (IntKind.i64.wrap (k - 1)).toNat default).At.Func (t.Fs.getD (IntKind.i64.wrap (k - 1)).toNat default).At.Items (t.Fs.getD (IntKind.i64.wrap (k - 1)).toNat default).At.Op (t.Fs.getD (IntKind.i64.wrap (k - 1)).toNat default).At.Bd) (At.mk (t.Fs.getD k.toNat default).At.Kind (t.Fs.getD k.toNat default).At.Row (t.Fs.getD k.toNat default).At.Ag (t.Fs.getD k.toNat default).At.Func (t.Fs.getD k.toNat default).At.Items (t.Fs.getD k.toNat default).At.Op (t.Fs.getD k.toNat default).At.Bd)) λr2=>.i (decide (r2≥0)) (.k (.inl false)) (.h (a,i,(),(IntKind.i64.wrap (k+1)),()) (t,()))) .d) (.h (a,i,(),(IntKind.i64.wrap (k+1)),()) (t,())))))) .d) (.k (.inr (a,i)))
def zDt (zZ:At->Bool×Bool) (x:zCr) (y:Term×Unit):=zpj zZ x.1 x.2.1 x.2.2.2.1 y.1
def zDr (zZ:At->Bool×Bool) (n:Nat) (a:yC) (i:Int) (k:Int) (t:Term):=zy (zDt zZ) (.inl default) n (a,i,(),k,()) (t,())
def z0a (r:zUF):LTree ty:=.ite (isL r) (.done .ret [.lit (.bool (getL r))] []) (.done (.exit 2) [.sl 28 (getR r).1,.lit (.int .i64 (getR r).2)] [])
def z3c:LL ty zCr:=za (lSl 28) (za zj (za (zdR 372 0) (za zj zk)))
def zrY (zZ:At->Bool×Bool) (a:yC) (i:Int):Wy zCE Unit (Bool⊕Unit):=.i (decide (i<Int.ofNat a.length)) (.i (decide (0<=i)&&decide (i<Int.ofNat a.length)) (.i (decide ((a.getD i.toNat default).Cf<1)) (.k (.inl false)) (.i (decide ((a.getD i.toNat default).Cf>1152921504606846976)) (.k (.inl false)) (.i (decide (i>0)) (.i (decide (0<=IntKind.i64.wrap (i - 1))&&decide (IntKind.i64.wrap (i - 1)<Int.ofNat a.length)) (.bn (zls (a.getD (IntKind.i64.wrap (i - 1)).toNat default).Fs (a.getD i.toNat default).Fs) λr9=>.i (decide (r9≥0)) (.k (.inl false)) (.bn (zDr zZ ((a.length+i.toNat +Int.toNat 0+(a.getD i.toNat default).Fs.length+1)+zbV a) a i 0 (a.getD i.toNat default)) λr8=>.i (isL r8) (.k (.inl (getL r8))) (.h ((getR r8).1,(IntKind.i64.wrap ((getR r8).2+1)),()) ()))) .d) (.bn (zDr zZ ((a.length+i.toNat +Int.toNat 0+(a.getD i.toNat default).Fs.length+1)+zbV a) a i 0 (a.getD i.toNat default)) λr10=>.i (isL r10) (.k (.inl (getL r10))) (.h ((getR r10).1,(IntKind.i64.wrap ((getR r10).2+1)),()) ()))))) .d) (.k (.inr ()))
def zED (zZ:At->Bool×Bool) (x:zCE) (y:Unit):=zrY zZ x.1 x.2.1
def zOr (zZ:At->Bool×Bool) (n:Nat) (a:yC) (i:Int):=zy (zED zZ) (.inl default) n (a,i,()) ()
def z7g:LL ty zCE:=za (lSl 28) (za zj zk)
def z2s (x:zCr) (y:Term×Unit):Nat:=((x.1.length+Int.toNat x.2.1+Int.toNat x.2.2.2.1+y.1.Fs.length+1)+zbV x.1)
def z3Y (x:zCE) (y:Unit):Nat:=((x.1.length+Int.toNat x.2.1+1)+zbV x.1)
def zES (zZ:At->Bool×Bool):=zbY base 93 [(34,zpG),(53,znn),(54,zHb),(55,(znw zZ))] [] [(4,(kpL [0,3])),(10,(kpL [0,3,4,5]))] [(4,1,[]),(4,0,(kpL [2])),(10,3,(kpL [0,3])),(10,0,(kpL [2]))] [(10,spW z3c zVn (zDt zZ) (.inl default) z0a z2s),(4,spW z7g zbcZ (zED zZ) (.inl default) zSy z3Y)] []
theorem z0C (zZ:At->Bool×Bool):zA (zES zZ) (lp (body f16) 1):=zp (id:=10) (hl:=rfl)
theorem z4t (zZ:At->Bool×Bool):zA (zES zZ) (lp (body f16) 0):=zp (id:=4) (hl:=rfl)
def zRB (zZ:At->Bool×Bool) (a:yC):Wy0 (Bool):=.bn (zCD a) λr15=>.i (!r15) (.k false) (.bn (zOr zZ ((a.length+Int.toNat 0+1)+zbV a) a 0) λr14=>.i (isL r14) (.k (getL r14)) (.k true))
def zzi (zZ:At->Bool×Bool) (a:yC):=(zRB zZ a).fin default
theorem zYV (zZ:At->Bool×Bool) (zYO:SdP 55 (znw zZ)):SdP 16 (zh3 (zzi zZ)):=
 sT (cx':=(zES zZ)) (zi ⟨zzw,zsU,zOl,zYO,trivial⟩) call16 func16 (lOK (aC (z4t zZ) (aC (z0C zZ) aN)))
def zbc0:=zbl base 9 [(89,zKs)]
def z2y (a:yC) (b:yC):Wy0 (Bool):=.bn (zLr a b) λr0=>.k (r0==0)
def ziN (a:yC) (b:yC):=(z2y a b).fin default
def zuy:=zh zWv λx=>((ziN x.1 x.2.1).1,zYA (ziN x.1 x.2.1).2)
theorem zyY:SdP 30 zuy:=
 sT (cx':=zbc0) (zi ⟨zYP,trivial⟩) call30 func30 (lOK aN)
def z88:=zbl base 42 []
def zUn (a:yC):Wy0 (Bool):=.i (Int.ofNat a.length==1) (.i (decide ((0:Int)<=(0:Int))&&decide (0<Int.ofNat a.length)) (.i ((a.getD (Int.toNat 0) default).Cf==1) (.i (decide ((0:Int)<=(0:Int))&&decide (0<Int.ofNat a.length)) (.i (Int.ofNat (a.getD (Int.toNat 0) default).Fs.length==1) (.i (decide ((0:Int)<=(0:Int))&&decide (0<Int.ofNat a.length)) (.i (decide ((0:Int)<=(0:Int))&&decide (0<Int.ofNat (a.getD (Int.toNat 0) default).Fs.length)) (.i (decide (((a.getD (Int.toNat 0) default).Fs.getD (Int.toNat 0) default).At.Kind≥2)) (.i (decide ((0:Int)<=(0:Int))&&decide (0<Int.ofNat a.length)) (.i (decide ((0:Int)<=(0:Int))&&decide (0<Int.ofNat (a.getD (Int.toNat 0) default).Fs.length)) (.k (((a.getD (Int.toNat 0) default).Fs.getD (Int.toNat 0) default).Exp==1)) .d) .d) (.k false)) .d) .d) (.k false)) .d) (.k false)) .d) (.k false)
def zrd (a:yC):=(zUn a).fin default
def zDo:=zh z2g λx=>((zrd x.1).1,zYA (zrd x.1).2)
theorem zKr:SdP 99 zDo:=
 sT (cx':=z88) (zi trivial) call99 func99 (lOK aN)
abbrev zDx:=yC×Int×Unit
def zpl (a:yC) (i:Int):Wy zDx Unit (Bool⊕Unit):=.i (decide (i<Int.ofNat a.length)) (.i (decide (0<=i)&&decide (i<Int.ofNat a.length)) (.i (Int.ofNat (a.getD i.toNat default).Fs.length==0) (.k (.inl true)) (.h (a,(IntKind.i64.wrap (i+1)),()) ())) .d) (.k (.inr ()))
def zDh (x:zDx) (y:Unit):=zpl x.1 x.2.1
def zM1 (n:Nat) (a:yC) (i:Int):=zy (zDh) (.inl default) n (a,i,()) ()
def z4B:LL ty zDx:=za (lSl 28) (za zj zk)
def zMS:=zbY base 17 [] [] [(2,(kpL [0,3]))] [(2,1,[]),(2,0,(kpL [2]))] [(2,spW z4B zbcZ (zDh) (.inl default) zSy λx y=>(x.1.length+Int.toNat x.2.1+1))] []
theorem zZN:zA zMS (lp (body f100) 0):=zp (id:=2) (hl:=rfl)
def zP5 (a:yC):Wy0 (Bool):=.bn (zM1 (a.length+Int.toNat 0+1) a 0) λr0=>.i (isL r0) (.k (getL r0)) (.k false)
def ziI (a:yC):=(zP5 a).fin default
def zse:=zh z2g λx=>((ziI x.1).1,zYA (ziI x.1).2)
theorem zyN:SdP 100 zse:=
 sT (cx':=zMS) (zi trivial) call100 func100 (lOK (aC zZN aN))
def zbat:=zbl base 36 []
def zX0 (v:Value):Wy0 (Bool):=.i (v.Kind==0) (.k (v.Text.toList==(ByteArray.mk #[]).toList)) (.i (v.Kind==1) (.i (v.Int==0) (.k (decide (Int.ofNat v.Text.size<=255))) (.k false)) (.i (v.Kind==2) (.i (v.Text.toList==(ByteArray.mk #[]).toList) (.i (v.Int==0) (.k true) (.k (v.Int==1))) (.k false)) (.k false)))
def zzQ (v:Value):=(zX0 v).fin default
def zPM:=zh zbcW λx=>((zzQ x.1).1,zYA (zzQ x.1).2)
theorem z4w:SdP 158 zPM:=
 sT (cx':=zbat) (zi trivial) call158 func158 (lOK aN)
abbrev zCu:=Int×yE×Unit×Int×Unit
def zw7 (fn:Int) (items:yE) (i:Int) (bound:Value):Wy zCu (Value×Unit) (Bool⊕Unit):=.i (decide (i<Int.ofNat items.length)) (.i (decide (0<=i)&&decide (i<Int.ofNat items.length)) (.bn (zzQ (items.getD i.toNat default).Value) λr0=>.i (!r0) (.k (.inl false)) (.i ((items.getD i.toNat default).Value.Kind != bound.Kind) (.k (.inl false)) (.i (fn==0) (.i ((items.getD i.toNat default).Value.Int != 1) (.k (.inl false)) (.h (fn,items,(),(IntKind.i64.wrap (i+1)),()) (bound,()))) (.h (fn,items,(),(IntKind.i64.wrap (i+1)),()) (bound,()))))) .d) (.k (.inr ()))
def zIA (x:zCu) (y:Value×Unit):=zw7 x.1 x.2.1 x.2.2.2.1 y.1
def zI2 (n:Nat) (fn:Int) (items:yE) (i:Int) (bound:Value):=zy (zIA) (.inl default) n (fn,items,(),i,()) (bound,())
def z97:LL ty zCu:=za zj (za (lSl 100) (za (zdR 276 0) (za zj zk)))
def zbag:BL ty (Value×Unit):=zff (zeK (λx=>(⟨x.1,x.2.1,x.2.2.1⟩:Value)) (λx=>(x.Kind,x.Int,x.Text,())) (λ_=>rfl) (za (zI .i64) (za (zI .i64) (za znV zk)))) false (z6)
def z81 (x:zCu) (y:Value×Unit):Nat:=(Int.toNat x.1+x.2.1.length+Int.toNat x.2.2.2.1+1)
def zVa:=zbY base 69 [(158,zPM)] [] [(4,(kpL [0,1,7,9]))] [(4,1,[]),(4,0,(kpL [8]))] [(4,spW z97 zbag (zIA) (.inl default) zSy z81)] []
theorem z9l:zA zVa (lp (body f111) 0):=zp (id:=4) (hl:=rfl)
def zX6 (fn:Int) (items:yE) (op:Int) (bound:Value):Wy0 (Bool):=.i (decide (fn<0)) (.k false) (.i (decide (fn>3)) (.k false) (.i (decide (op<5)) (.k false) (.i (decide (op>10)) (.k false) (.bn (zzQ bound) λr4=>.i (!r4) (.k false) (.i (decide (fn<=1)) (.i (bound.Kind != 0) (.k false) (.bn (zI2 (fn.toNat +items.length+Int.toNat 0+1) fn items 0 bound) λr2=>.i (isL r2) (.k (getL r2)) (.k true))) (.bn (zI2 (fn.toNat +items.length+Int.toNat 0+1) fn items 0 bound) λr3=>.i (isL r3) (.k (getL r3)) (.k true)))))))
def zzT (fn:Int) (items:yE) (op:Int) (bound:Value):=(zX6 fn items op bound).fin default
def zEP:=zh zWe λx=>((zzT x.1 x.2.1 x.2.2.1 x.2.2.2.1).1,zYA (zzT x.1 x.2.1 x.2.2.1 x.2.2.2.1).2)
theorem zMW:SdP 111 zEP:=
 sT (cx':=zVa) (zi ⟨z4w,trivial⟩) call111 func111 (lOK (aC z9l aN))
def zbaP:=zbl base 23 []
def zYg (x_:At):Wy0 (Bool):=.i (x_.Func==0) (.i (Int.ofNat x_.Items.length==0) (.i (x_.Op==0) (.k (x_.Bd.Kind==0&&(x_.Bd.Int==0&&(x_.Bd.Text.toList==(ByteArray.mk #[]).toList&&true)))) (.k false)) (.k false)) (.k false)
def zqy (x_:At):=(zYg x_).fin default
def zP0:=zh zDM λx=>((zqy x.1).1,zYA (zqy x.1).2)
theorem z4s:SdP 110 zP0:=
 sT (cx':=zbaP) (zi trivial) call110 func110 (lOK aN)
abbrev zgg:=Unit×Int×Unit
def zli (zbE:yC->Bool×Bool) (i:Int) (x_:At):Wy zgg (At×Unit) (Bool⊕At):=.i (decide (i<Int.ofNat x_.Ag.length)) (.i (decide (0<=i)&&decide (i<Int.ofNat x_.Ag.length)) (.i (Int.ofNat (List.length (x_.Ag.getD i.toNat default))==0) (.k (.inl false)) (.i (decide (0<=i)&&decide (i<Int.ofNat x_.Ag.length)) (.bn (zbE (x_.Ag.getD i.toNat default)) λr0=>.i (!r0) (.k (.inl false)) (.h ((),(IntKind.i64.wrap (i+1)),()) (x_,()))) .d)) .d) (.k (.inr x_))
def zyh (zbE:yC->Bool×Bool) (x:zgg) (y:At×Unit):=zli zbE x.2.1 y.1
def zyp (zbE:yC->Bool×Bool) (n:Nat) (i:Int) (x_:At):=zy (zyh zbE) (.inl default) n ((),i,()) (x_,())
def zUO (r:Bool⊕At):LTree ty:=.ite (isL r) (.done .ret [.lit (.bool (getL r))] []) (.done (.exit 0) [.ptr 824 0] [.box (base.enc 67 (getR r)) false])
def zWn:LL ty zgg:=za (zdR 824 0) (za zj zk)
def zky (zbE:yC->Bool×Bool) (i:Int) (x_:At):Wy zgg (At×Unit) (Bool⊕Unit):=.i (decide (i<Int.ofNat x_.Items.length)) (.i (decide (0<=i)&&decide (i<Int.ofNat x_.Items.length)) (.i (Int.ofNat (x_.Items.getD i.toNat default).Ann.length==0) (.k (.inl false)) (.i (decide (0<=i)&&decide (i<Int.ofNat x_.Items.length)) (.bn (zbE (x_.Items.getD i.toNat default).Ann) λr3=>.i (!r3) (.k (.inl false)) (.i (decide (i>0)) (.i (decide (0<=IntKind.i64.wrap (i - 1))&&decide (IntKind.i64.wrap (i - 1)<=i)&&decide (i<=Int.ofNat x_.Items.length)) (.i (decide (0<=i)&&decide (i<=IntKind.i64.wrap (i+1))&&decide (IntKind.i64.wrap (i+1)<=Int.ofNat x_.Items.length)) (.bn (zt8 (List.take (i.toNat - (IntKind.i64.wrap (i - 1)).toNat) (List.drop (IntKind.i64.wrap (i - 1)).toNat x_.Items)) (List.take ((IntKind.i64.wrap (i+1)).toNat - i.toNat) (List.drop i.toNat x_.Items))) λr2=>.i (decide (r2>0)) (.k (.inl false)) (.h ((),(IntKind.i64.wrap (i+1)),()) (x_,()))) .d) .d) (.h ((),(IntKind.i64.wrap (i+1)),()) (x_,())))) .d)) .d) (.k (.inr ()))
def zwQ (zbE:yC->Bool×Bool) (x:zgg) (y:At×Unit):=zky zbE x.2.1 y.1
def zE5 (zbE:yC->Bool×Bool) (n:Nat) (i:Int) (x_:At):=zy (zwQ zbE) (.inl default) n ((),i,()) (x_,())
def zSQ (r:Bool⊕Unit):LTree ty:=.ite (isL r) (.done .ret [.lit (.bool (getL r))] []) (.done (.exit 3) [] [])
def zUT (x:zgg) (y:At×Unit):Nat:=(Int.toNat x.2.1+y.1.Ag.length+y.1.Items.length+1)
def zyH (zbE:yC->Bool×Bool):=zbY base 206 [(16,(zh3 zbE)),(30,zuy),(99,zDo),(100,zse),(106,ztg),(110,zP0),(111,zEP)] [] [(6,(kpL [1,3])),(21,(kpL [1,4]))] [(6,1,(kpL [1])),(6,0,(kpL [2])),(21,4,[]),(21,0,(kpL [2]))] [(6,spW zWn zZu (zyh zbE) (.inl default) zUO zUT),(21,spW zWn zZu (zwQ zbE) (.inl default) zSQ zUT)] []
theorem zT6 (zbE:yC->Bool×Bool):zA (zyH zbE) (lp (body f55) 0):=zp (id:=6) (hl:=rfl)
theorem zTB (zbE:yC->Bool×Bool):zA (zyH zbE) (lp (body f55) 1):=zp (id:=21) (hl:=rfl)
def zIm (zbE:yC->Bool×Bool) (x_:At):Wy0 (Bool):=.i (x_.Kind==0) (.i (decide (x_.Row.Table≥1)) (.i (decide (x_.Row.Seq≥1)) (.i (Int.ofNat x_.Ag.length==0) (.bn (zqy (At.mk x_.Kind x_.Row x_.Ag x_.Func x_.Items x_.Op x_.Bd)) λr6=>.k r6) (.k false)) (.k false)) (.k false)) (.i (!(x_.Row.Table==0&&(x_.Row.Seq==0&&true))) (.k false) (.bn (zyp zbE (Int.toNat 0+x_.Ag.length+x_.Items.length+1) 0 (At.mk x_.Kind x_.Row x_.Ag x_.Func x_.Items x_.Op x_.Bd)) λr17=>.i (isL r17) (.k (getL r17)) (.i ((getR r17).Kind==1) (.i (Int.ofNat (getR r17).Ag.length==2) (.bn (zqy (At.mk (getR r17).Kind (getR r17).Row (getR r17).Ag (getR r17).Func (getR r17).Items (getR r17).Op (getR r17).Bd)) λr8=>.i (r8) (.i (decide ((0:Int)<=(0:Int))&&decide (0<Int.ofNat (getR r17).Ag.length)) (.i (decide ((0:Int)<=(1:Int))&&decide (1<Int.ofNat (getR r17).Ag.length)) (.bn (ziN ((getR r17).Ag.getD (Int.toNat 0) default) ((getR r17).Ag.getD (Int.toNat 1) default)) λr7=>.k (!r7)) .d) .d) (.k false)) (.k false)) (.i ((getR r17).Kind==2) (.i (Int.ofNat (getR r17).Ag.length==1) (.bn (zqy (At.mk (getR r17).Kind (getR r17).Row (getR r17).Ag (getR r17).Func (getR r17).Items (getR r17).Op (getR r17).Bd)) λr12=>.i (r12) (.i (decide ((0:Int)<=(0:Int))&&decide (0<Int.ofNat (getR r17).Ag.length)) (.i (Int.ofNat (List.length ((getR r17).Ag.getD (Int.toNat 0) default))==1) (.i (decide ((0:Int)<=(0:Int))&&decide (0<Int.ofNat (getR r17).Ag.length)) (.bn (ziI ((getR r17).Ag.getD (Int.toNat 0) default)) λr10=>.i (!r10) (.i (decide ((0:Int)<=(0:Int))&&decide (0<Int.ofNat (getR r17).Ag.length)) (.bn (zrd ((getR r17).Ag.getD (Int.toNat 0) default)) λr9=>.k (!r9)) .d) (.k false)) .d) (.i (decide ((0:Int)<=(0:Int))&&decide (0<Int.ofNat (getR r17).Ag.length)) (.bn (zrd ((getR r17).Ag.getD (Int.toNat 0) default)) λr11=>.k (!r11)) .d)) .d) (.k false)) (.k false)) (.i ((getR r17).Kind==3) (.i (Int.ofNat (getR r17).Ag.length==1) (.bn (zqy (At.mk (getR r17).Kind (getR r17).Row (getR r17).Ag (getR r17).Func (getR r17).Items (getR r17).Op (getR r17).Bd)) λr14=>.i (r14) (.i (decide ((0:Int)<=(0:Int))&&decide (0<Int.ofNat (getR r17).Ag.length)) (.bn (ziI ((getR r17).Ag.getD (Int.toNat 0) default)) λr13=>.k (!r13)) .d) (.k false)) (.k false)) (.i ((getR r17).Kind==4) (.i (Int.ofNat (getR r17).Ag.length != 0) (.k false) (.i (Int.ofNat (getR r17).Items.length==0) (.k false) (.i (decide (Int.ofNat (getR r17).Items.length>1024)) (.k false) (.bn (zzT (getR r17).Func (getR r17).Items (getR r17).Op (getR r17).Bd) λr16=>.i (!r16) (.k false) (.bn (zE5 zbE (Int.toNat 0+(getR r17).Ag.length+(getR r17).Items.length+1) 0 (At.mk (getR r17).Kind (getR r17).Row (getR r17).Ag (getR r17).Func (getR r17).Items (getR r17).Op (getR r17).Bd)) λr15=>.i (isL r15) (.k (getL r15)) (.k true)))))) (.k false)))))))
def zpy (zbE:yC->Bool×Bool) (x_:At):=(zIm zbE x_).fin default
theorem zQD (zbE:yC->Bool×Bool) (z8c:SdP 16 (zh3 zbE)):SdP 55 (znw (zpy zbE)):=
 sT (cx':=(zyH zbE)) (zi ⟨z8c,zyY,zKr,zyN,zBU,z4s,zMW,trivial⟩) call55 func55 (lOK (aC (zT6 zbE) (aC (zTB zbE) aN)))
def zNc:Nat->(yC->Bool×Bool)×(At->Bool×Bool)
 | 0=>(λ_=>(false,default),λ_=>(false,default))
 | n+1=>(zzi ((zNc n).2),zpy ((zNc n).1))
def zzO (n:Nat):yC->Bool×Bool:=(zNc n).1
def zwc (n:Nat):At->Bool×Bool:=(zNc n).2
theorem z7d (n:Nat):zzO (n+1)=zzi (zwc n):=rfl
theorem zWc (n:Nat):zwc (n+1)=zpy (zzO n):=rfl
theorem z1d:∀ n,SdP 16 (zh3 (zzO n))/\SdP 55 (znw (zwc n))
 | 0=>⟨z8 call16 (λ_=>rfl),z8 call55 (λ_=>rfl)⟩
 | n+1=>by
  have ih:=z1d n;exact ⟨zYV _ (ih.2),zQD _ (ih.1)⟩
def zeR:yC->Bool×Bool:=zzO 1000
def zfc:Ab.Spec ty:=zh3 zeR
theorem zfD:SdP 16 zfc:=(z1d 1000).1
def zbef:=zbl base 3 []
def zbfO:Wy0 (yC):=.k [TO.mk 1 []]
def zxR:Bool×yC:=(zbfO).fin default
def zwO:=zh zSv λx=>((zxR ).1,zSt (zxR ).2)
theorem zAV:SdP 77 zwO:=
 sT (cx':=zbef) (zi trivial) call77 func77 (lOK aN) (sg:=⟨[.own 28],[]⟩)
def zbeg:=zbl base 8 [(54,zHb)]
def z5g (a:yC):Wy0 (yC×Int):=.bn (zCD a) λr0=>.i (!r0) (.k ([],6)) (.k (a,0))
def znD (a:yC):=(z5g a).fin default
def zbcO (r:yC×Int):ARes ty:=⟨[.pure (.sl 28 r.1),.pure (.lit (.int .i64 r.2))],[]⟩
def znb:=zh z2g λx=>((znD x.1).1,zbcO (znD x.1).2)
theorem zox:SdP 101 znb:=
 sT (cx':=zbeg) (zi ⟨zOl,trivial⟩) call101 func101 (lOK aN) (sg:=⟨[.pure,.pure],[]⟩)
def zbaG:=zbl base 30 [(16,zfc),(77,zwO),(99,zDo),(100,zse),(101,znb),(102,zol)]
def zLF (a:yC):Wy0 (yC×Int):=.bn (zeR a) λr4=>.i (!r4) (.k ([],1)) (.i (Int.ofNat a.length==0) (.k (a,0)) (.bn (zrd a) λr3=>.i (r3) (.k (a,0)) (.i (Int.ofNat a.length==1) (.bn (ziI a) λr1=>.i (r1) (.k (zxR.2,0)) (.bn (znD (znv (At.mk 2 (RowID.mk 0 0) [a] 0 [] 0 (Value.mk 0 0 (ByteArray.mk #[])))).2) λr0=>.k (r0.1,r0.2))) (.bn (znD (znv (At.mk 2 (RowID.mk 0 0) [a] 0 [] 0 (Value.mk 0 0 (ByteArray.mk #[])))).2) λr2=>.k (r2.1,r2.2)))))
def zvm (a:yC):=(zLF a).fin default
def zEH:=zh z2g λx=>((zvm x.1).1,zbcO (zvm x.1).2)
theorem zMM:SdP 47 zEH:=
 sT (cx':=zbaG) (zi ⟨zfD,zAV,zKr,zyN,zox,zrW,trivial⟩) call47 func47 (lOK aN) (sg:=⟨[.pure,.pure],[]⟩)
def zbcl:=zbl base 9 []
def z1Q (a:Int) (b:Int):Wy0 (Int):=.k (if 1152921504606846976<IntKind.i64.wrap (a+b) then 1152921504606846976 else IntKind.i64.wrap (a+b))
def zyL (a:Int) (b:Int):=(z1Q a b).fin default
def zRT:=zh zYx λx=>((zyL x.1 x.2.1).1,zTh (zyL x.1 x.2.1).2)
theorem z64:SdP 112 zRT:=
 sT (cx':=zbcl) (zi trivial) call112 func112 (lOK aN)
abbrev zGN:=yC×Unit×Int×Unit
abbrev z0i:=yC×Int×Term
def zCf (a:yC) (i:Int) (t:Term):Wy zGN (Term×Unit) z0i:=.i (decide (i<Int.ofNat a.length)) (.i (decide (0<=i)&&decide (i<Int.ofNat a.length)) (.bn (zls (a.getD i.toNat default).Fs t.Fs) λr0=>.i (decide (r0<0)) (.h (a,(),(IntKind.i64.wrap (i+1)),()) (t,())) (.k (a,i,t))) .d) (.k (a,i,t))
def zOf (x:zGN) (y:Term×Unit):=zCf x.1 x.2.2.1 y.1
def zZV (n:Nat) (a:yC) (i:Int) (t:Term):=zy (zOf) default n (a,(),i,()) (t,())
def zbcq (r:z0i):LTree ty:=.done (.exit 0) [.sl 28 r.1,.ptr 288 0,.lit (.int .i64 r.2.1)] [.box (base.enc 28 r.2.2) false]
def zbfl:LL ty zGN:=za (lSl 28) (za (zdR 288 0) (za zj zk))
def zbcz (x:zGN) (y:Term×Unit):Nat:=(x.1.length+Int.toNat x.2.2.1+y.1.Fs.length+1)
def z2j:=zbY base 72 [(34,zpG),(112,zRT)] [] [(2,(kpL [0,3,5]))] [(2,1,(kpL [0,3,5]))] [(2,spW zbfl zVn (zOf) default zbcq zbcz)] []
theorem zbc9:zA z2j (lp (body f58) 0):=zp (id:=2) (hl:=rfl)
def z5A (a:yC) (t:Term):Wy0 (yC):=.bn (zZV (a.length+Int.toNat 0+t.Fs.length+1) a 0 t) λr3=>.i (decide ((0:Int)<=(0:Int))&&decide (0<=r3.2.1)&&decide (r3.2.1<=Int.ofNat r3.1.length)) (.i (decide ((0+(List.take (r3.2.1.toNat - Int.toNat 0) (List.drop (Int.toNat 0) r3.1)).length)*32<=zG)) (.i (decide (r3.2.1<Int.ofNat r3.1.length)) (.i (decide (0<=r3.2.1)&&decide (r3.2.1<Int.ofNat r3.1.length)) (.bn (zls (r3.1.getD r3.2.1.toNat default).Fs r3.2.2.Fs) λr2=>.i (r2==0) (.i (decide (0<=r3.2.1)&&decide (r3.2.1<Int.ofNat r3.1.length)) (.i (decide ((([]++List.take (r3.2.1.toNat - Int.toNat 0) (List.drop (Int.toNat 0) r3.1)).length+[TO.mk (zyL (r3.1.getD r3.2.1.toNat default).Cf r3.2.2.Cf).2 r3.2.2.Fs].length)*32<=zG)) (.i (decide (0<=IntKind.i64.wrap (r3.2.1+1))&&decide (IntKind.i64.wrap (r3.2.1+1)<=Int.ofNat r3.1.length)&&decide (Int.ofNat r3.1.length<=Int.ofNat r3.1.length)) (.i (decide ((([]++List.take (r3.2.1.toNat - Int.toNat 0) (List.drop (Int.toNat 0) r3.1)++[TO.mk (zyL (r3.1.getD r3.2.1.toNat default).Cf r3.2.2.Cf).2 r3.2.2.Fs]).length+(List.take ((Int.ofNat r3.1.length).toNat - (IntKind.i64.wrap (r3.2.1+1)).toNat) (List.drop (IntKind.i64.wrap (r3.2.1+1)).toNat r3.1)).length)*32<=zG)) (.k ([]++List.take (r3.2.1.toNat - Int.toNat 0) (List.drop (Int.toNat 0) r3.1)++[TO.mk (zyL (r3.1.getD r3.2.1.toNat default).Cf r3.2.2.Cf).2 r3.2.2.Fs]++List.take ((Int.ofNat r3.1.length).toNat - (IntKind.i64.wrap (r3.2.1+1)).toNat) (List.drop (IntKind.i64.wrap (r3.2.1+1)).toNat r3.1))) .d) .d) .d) .d) (.i (decide ((([]++List.take (r3.2.1.toNat - Int.toNat 0) (List.drop (Int.toNat 0) r3.1)).length+[r3.2.2].length)*32<=zG)) (.i (decide (0<=r3.2.1)&&decide (r3.2.1<=Int.ofNat r3.1.length)&&decide (Int.ofNat r3.1.length<=Int.ofNat r3.1.length)) (.i (decide ((([]++List.take (r3.2.1.toNat - Int.toNat 0) (List.drop (Int.toNat 0) r3.1)++[r3.2.2]).length+(List.take ((Int.ofNat r3.1.length).toNat - r3.2.1.toNat) (List.drop r3.2.1.toNat r3.1)).length)*32<=zG)) (.k ([]++List.take (r3.2.1.toNat - Int.toNat 0) (List.drop (Int.toNat 0) r3.1)++[r3.2.2]++List.take ((Int.ofNat r3.1.length).toNat - r3.2.1.toNat) (List.drop r3.2.1.toNat r3.1))) .d) .d) .d)) .d) (.i (decide ((([]++List.take (r3.2.1.toNat - Int.toNat 0) (List.drop (Int.toNat 0) r3.1)).length+[r3.2.2].length)*32<=zG)) (.i (decide (0<=r3.2.1)&&decide (r3.2.1<=Int.ofNat r3.1.length)&&decide (Int.ofNat r3.1.length<=Int.ofNat r3.1.length)) (.i (decide ((([]++List.take (r3.2.1.toNat - Int.toNat 0) (List.drop (Int.toNat 0) r3.1)++[r3.2.2]).length+(List.take ((Int.ofNat r3.1.length).toNat - r3.2.1.toNat) (List.drop r3.2.1.toNat r3.1)).length)*32<=zG)) (.k ([]++List.take (r3.2.1.toNat - Int.toNat 0) (List.drop (Int.toNat 0) r3.1)++[r3.2.2]++List.take ((Int.ofNat r3.1.length).toNat - r3.2.1.toNat) (List.drop r3.2.1.toNat r3.1))) .d) .d) .d)) .d) .d
def zxM (a:yC) (t:Term):=(z5A a t).fin default
def zbgc:AL base (yC×Term×Unit):=zc (ze (vSl 28)) (zc (ze (zcl 28)) zo)
def zCC:=zh zbgc λx=>((zxM x.1 x.2.1).1,zSt (zxM x.1 x.2.1).2)
theorem zGW:SdP 58 zCC:=
 sT (cx':=z2j) (zi ⟨zzw,z64,trivial⟩) call58 func58 (lOK (aC zbc9 aN)) (sg:=⟨[.own 28],[]⟩)
abbrev zAY:=yD×Unit×Int×Unit
abbrev zR0:=yD×Int×Fc
def zui (l:yD) (i:Int) (f:Fc):Wy zAY (Fc×Unit) zR0:=.i (decide (i<Int.ofNat l.length)) (.i (decide (0<=i)&&decide (i<Int.ofNat l.length)) (.bn (zju (At.mk (l.getD i.toNat default).At.Kind (l.getD i.toNat default).At.Row (l.getD i.toNat default).At.Ag (l.getD i.toNat default).At.Func (l.getD i.toNat default).At.Items (l.getD i.toNat default).At.Op (l.getD i.toNat default).At.Bd) (At.mk f.At.Kind f.At.Row f.At.Ag f.At.Func f.At.Items f.At.Op f.At.Bd)) λr0=>.i (decide (r0<0)) (.h (l,(),(IntKind.i64.wrap (i+1)),()) (f,())) (.k (l,i,f))) .d) (.k (l,i,f))
def zGS (x:zAY) (y:Fc×Unit):=zui x.1 x.2.2.1 y.1
def zRw (n:Nat) (l:yD) (i:Int) (f:Fc):=zy (zGS) default n (l,(),i,()) (f,())
def z60 (r:zR0):LTree ty:=.done (.exit 0) [.sl 69 r.1,.ptr 296 0,.lit (.int .i64 r.2.1)] [.box (base.enc 69 r.2.2) false]
def z7v:LL ty zAY:=za (lSl 69) (za (zdR 296 0) (za zj zk))
def z6r (x:zAY) (y:Fc×Unit):Nat:=(x.1.length+Int.toNat x.2.2.1+y.1.At.Ag.length+y.1.At.Items.length+1)
def zRi:=zbY base 74 [(53,znn)] [] [(2,(kpL [0,3,5]))] [(2,1,(kpL [0,3,5]))] [(2,spW z7v zUd (zGS) default z60 z6r)] []
theorem z7q:zA zRi (lp (body f57) 0):=zp (id:=2) (hl:=rfl)
def zVx (l:yD) (f:Fc):Wy0 (yD):=.bn (zRw (l.length+Int.toNat 0+f.At.Ag.length+f.At.Items.length+1) l 0 (FO.mk (At.mk f.At.Kind f.At.Row f.At.Ag f.At.Func f.At.Items f.At.Op f.At.Bd) f.Exp)) λr3=>.i (decide ((0:Int)<=(0:Int))&&decide (0<=r3.2.1)&&decide (r3.2.1<=Int.ofNat r3.1.length)) (.i (decide ((0+(List.take (r3.2.1.toNat - Int.toNat 0) (List.drop (Int.toNat 0) r3.1)).length)*128<=zG)) (.i (decide (r3.2.1<Int.ofNat r3.1.length)) (.i (decide (0<=r3.2.1)&&decide (r3.2.1<Int.ofNat r3.1.length)) (.bn (zju (At.mk (r3.1.getD r3.2.1.toNat default).At.Kind (r3.1.getD r3.2.1.toNat default).At.Row (r3.1.getD r3.2.1.toNat default).At.Ag (r3.1.getD r3.2.1.toNat default).At.Func (r3.1.getD r3.2.1.toNat default).At.Items (r3.1.getD r3.2.1.toNat default).At.Op (r3.1.getD r3.2.1.toNat default).At.Bd) (At.mk r3.2.2.At.Kind r3.2.2.At.Row r3.2.2.At.Ag r3.2.2.At.Func r3.2.2.At.Items r3.2.2.At.Op r3.2.2.At.Bd)) λr2=>.i (r2==0) (.i (decide (r3.2.2.At.Kind<3)) (.i (decide (0<=r3.2.1)&&decide (r3.2.1<Int.ofNat r3.1.length)) (.i (decide ((([]++List.take (r3.2.1.toNat - Int.toNat 0) (List.drop (Int.toNat 0) r3.1)).length+[FO.mk (At.mk r3.2.2.At.Kind r3.2.2.At.Row r3.2.2.At.Ag r3.2.2.At.Func r3.2.2.At.Items r3.2.2.At.Op r3.2.2.At.Bd) (IntKind.i64.wrap ((r3.1.getD r3.2.1.toNat default).Exp+r3.2.2.Exp))].length)*128<=zG)) (.i (decide (0<=IntKind.i64.wrap (r3.2.1+1))&&decide (IntKind.i64.wrap (r3.2.1+1)<=Int.ofNat r3.1.length)&&decide (Int.ofNat r3.1.length<=Int.ofNat r3.1.length)) (.i (decide ((([]++List.take (r3.2.1.toNat - Int.toNat 0) (List.drop (Int.toNat 0) r3.1)++[FO.mk (At.mk r3.2.2.At.Kind r3.2.2.At.Row r3.2.2.At.Ag r3.2.2.At.Func r3.2.2.At.Items r3.2.2.At.Op r3.2.2.At.Bd) (IntKind.i64.wrap ((r3.1.getD r3.2.1.toNat default).Exp+r3.2.2.Exp))]).length+(List.take ((Int.ofNat r3.1.length).toNat - (IntKind.i64.wrap (r3.2.1+1)).toNat) (List.drop (IntKind.i64.wrap (r3.2.1+1)).toNat r3.1)).length)*128<=zG)) (.k ([]++List.take (r3.2.1.toNat - Int.toNat 0) (List.drop (Int.toNat 0) r3.1)++[FO.mk (At.mk r3.2.2.At.Kind r3.2.2.At.Row r3.2.2.At.Ag r3.2.2.At.Func r3.2.2.At.Items r3.2.2.At.Op r3.2.2.At.Bd) (IntKind.i64.wrap ((r3.1.getD r3.2.1.toNat default).Exp+r3.2.2.Exp))]++List.take ((Int.ofNat r3.1.length).toNat - (IntKind.i64.wrap (r3.2.1+1)).toNat) (List.drop (IntKind.i64.wrap (r3.2.1+1)).toNat r3.1))) .d) .d) .d) .d) (.i (decide ((([]++List.take (r3.2.1.toNat - Int.toNat 0) (List.drop (Int.toNat 0) r3.1)).length+[FO.mk (At.mk r3.2.2.At.Kind r3.2.2.At.Row r3.2.2.At.Ag r3.2.2.At.Func r3.2.2.At.Items r3.2.2.At.Op r3.2.2.At.Bd) r3.2.2.Exp].length)*128<=zG)) (.i (decide (0<=IntKind.i64.wrap (r3.2.1+1))&&decide (IntKind.i64.wrap (r3.2.1+1)<=Int.ofNat r3.1.length)&&decide (Int.ofNat r3.1.length<=Int.ofNat r3.1.length)) (.i (decide ((([]++List.take (r3.2.1.toNat - Int.toNat 0) (List.drop (Int.toNat 0) r3.1)++[FO.mk (At.mk r3.2.2.At.Kind r3.2.2.At.Row r3.2.2.At.Ag r3.2.2.At.Func r3.2.2.At.Items r3.2.2.At.Op r3.2.2.At.Bd) r3.2.2.Exp]).length+(List.take ((Int.ofNat r3.1.length).toNat - (IntKind.i64.wrap (r3.2.1+1)).toNat) (List.drop (IntKind.i64.wrap (r3.2.1+1)).toNat r3.1)).length)*128<=zG)) (.k ([]++List.take (r3.2.1.toNat - Int.toNat 0) (List.drop (Int.toNat 0) r3.1)++[FO.mk (At.mk r3.2.2.At.Kind r3.2.2.At.Row r3.2.2.At.Ag r3.2.2.At.Func r3.2.2.At.Items r3.2.2.At.Op r3.2.2.At.Bd) r3.2.2.Exp]++List.take ((Int.ofNat r3.1.length).toNat - (IntKind.i64.wrap (r3.2.1+1)).toNat) (List.drop (IntKind.i64.wrap (r3.2.1+1)).toNat r3.1))) .d) .d) .d)) (.i (decide ((([]++List.take (r3.2.1.toNat - Int.toNat 0) (List.drop (Int.toNat 0) r3.1)).length+[FO.mk (At.mk r3.2.2.At.Kind r3.2.2.At.Row r3.2.2.At.Ag r3.2.2.At.Func r3.2.2.At.Items r3.2.2.At.Op r3.2.2.At.Bd) r3.2.2.Exp].length)*128<=zG)) (.i (decide (0<=r3.2.1)&&decide (r3.2.1<=Int.ofNat r3.1.length)&&decide (Int.ofNat r3.1.length<=Int.ofNat r3.1.length)) (.i (decide ((([]++List.take (r3.2.1.toNat - Int.toNat 0) (List.drop (Int.toNat 0) r3.1)++[FO.mk (At.mk r3.2.2.At.Kind r3.2.2.At.Row r3.2.2.At.Ag r3.2.2.At.Func r3.2.2.At.Items r3.2.2.At.Op r3.2.2.At.Bd) r3.2.2.Exp]).length+(List.take ((Int.ofNat r3.1.length).toNat - r3.2.1.toNat) (List.drop r3.2.1.toNat r3.1)).length)*128<=zG)) (.k ([]++List.take (r3.2.1.toNat - Int.toNat 0) (List.drop (Int.toNat 0) r3.1)++[FO.mk (At.mk r3.2.2.At.Kind r3.2.2.At.Row r3.2.2.At.Ag r3.2.2.At.Func r3.2.2.At.Items r3.2.2.At.Op r3.2.2.At.Bd) r3.2.2.Exp]++List.take ((Int.ofNat r3.1.length).toNat - r3.2.1.toNat) (List.drop r3.2.1.toNat r3.1))) .d) .d) .d)) .d) (.i (decide ((([]++List.take (r3.2.1.toNat - Int.toNat 0) (List.drop (Int.toNat 0) r3.1)).length+[FO.mk (At.mk r3.2.2.At.Kind r3.2.2.At.Row r3.2.2.At.Ag r3.2.2.At.Func r3.2.2.At.Items r3.2.2.At.Op r3.2.2.At.Bd) r3.2.2.Exp].length)*128<=zG)) (.i (decide (0<=r3.2.1)&&decide (r3.2.1<=Int.ofNat r3.1.length)&&decide (Int.ofNat r3.1.length<=Int.ofNat r3.1.length)) (.i (decide ((([]++List.take (r3.2.1.toNat - Int.toNat 0) (List.drop (Int.toNat 0) r3.1)++[FO.mk (At.mk r3.2.2.At.Kind r3.2.2.At.Row r3.2.2.At.Ag r3.2.2.At.Func r3.2.2.At.Items r3.2.2.At.Op r3.2.2.At.Bd) r3.2.2.Exp]).length+(List.take ((Int.ofNat r3.1.length).toNat - r3.2.1.toNat) (List.drop r3.2.1.toNat r3.1)).length)*128<=zG)) (.k ([]++List.take (r3.2.1.toNat - Int.toNat 0) (List.drop (Int.toNat 0) r3.1)++[FO.mk (At.mk r3.2.2.At.Kind r3.2.2.At.Row r3.2.2.At.Ag r3.2.2.At.Func r3.2.2.At.Items r3.2.2.At.Op r3.2.2.At.Bd) r3.2.2.Exp]++List.take ((Int.ofNat r3.1.length).toNat - r3.2.1.toNat) (List.drop r3.2.1.toNat r3.1))) .d) .d) .d)) .d) .d
def zBy (l:yD) (f:Fc):=(zVx l f).fin default
def z5C (r:yD):ARes ty:=⟨[.pure (.sl 69 r)],[]⟩
def zbbm:AL base (yD×Fc×Unit):=zc (ze (vSl 69)) (zc (ze (zcl 69)) zo)
def zMC:=zh zbbm λx=>((zBy x.1 x.2.1).1,z5C (zBy x.1 x.2.1).2)
theorem z0h:SdP 57 zMC:=
 sT (cx':=zRi) (zi ⟨zsU,trivial⟩) call57 func57 (lOK (aC z7q aN))
def zba1:=zbl base 12 []
def zX1 (a:Int) (b:Int):Wy0 (Int):=.i (!decide (b=0)) (.i (decide (a>IntKind.i64.wrap (Int.tdiv 1152921504606846976 b))) (.k 1152921504606846976) (.k (IntKind.i64.wrap (a*b)))) .d
def zEa (a:Int) (b:Int):=(zX1 a b).fin default
def zPy:=zh zYx λx=>((zEa x.1 x.2.1).1,zTh (zEa x.1 x.2.1).2)
theorem z3G:SdP 56 zPy:=
 sT (cx':=zba1) (zi trivial) call56 func56 (lOK aN)
abbrev zyG:=yC×yC×Unit×Int×Int×Unit×Int×Unit
abbrev zyU:=yC×(Int×yD×Unit)×Unit
abbrev zPh:=yC×yC×Int×Int×yC×Int×yD
abbrev zyT:=yC×yC×Unit×Int×Int×Unit
abbrev zh6:=yC×Unit
abbrev zQj:=yC×yC×Int×yC
abbrev zyv:=yC×yC×Unit×Int×Unit
def zpz (a:yC) (b:yC) (i:Int) (k:Int) (j:Int) (out_:yC) (t_0:Int) (t_1:yD):Wy zyG zyU zPh:=.i (decide (0<=k)&&decide (k<Int.ofNat b.length)) (.i (decide (j<Int.ofNat (b.getD k.toNat default).Fs.length)) (.i (decide (0<=k)&&decide (k<Int.ofNat b.length)) (.i (decide (0<=j)&&decide (j<Int.ofNat (b.getD k.toNat default).Fs.length)) (.bn (zBy t_1 (FO.mk (At.mk ((b.getD k.toNat default).Fs.getD j.toNat default).At.Kind ((b.getD k.toNat default).Fs.getD j.toNat default).At.Row ((b.getD k.toNat default).Fs.getD j.toNat default).At.Ag ((b.getD k.toNat default).Fs.getD j.toNat default).At.Func ((b.getD k.toNat default).Fs.getD j.toNat default).At.Items ((b.getD k.toNat default).Fs.getD j.toNat default).At.Op ((b.getD k.toNat default).Fs.getD j.toNat default).At.Bd) ((b.getD k.toNat default).Fs.getD j.toNat default).Exp)) λr0=>.h (a,b,(),i,k,(),(IntKind.i64.wrap (j+1)),()) (out_,(t_0,(r0),()),())) .d) .d) (.k (a,b,i,k,out_,t_0,t_1))) .d
def zDn (x:zyG) (y:zyU):=zpz x.1 x.2.1 x.2.2.2.1 x.2.2.2.2.1 x.2.2.2.2.2.2.1 y.1 y.2.1.1 y.2.1.2.1
def zMA (n:Nat) (a:yC) (b:yC) (i:Int) (k:Int) (j:Int) (out_:yC) (t_0:Int) (t_1:yD):=zy (zDn) default n (a,b,(),i,k,(),j,()) (out_,(t_0,t_1,()),())
def z1s (r:zPh):LTree ty:=.done (.exit 4) [.sl 28 r.1,.sl 28 r.2.1,.own 264,.lit (.int .i64 r.2.2.1),.lit (.int .i64 r.2.2.2.1),.ptr 265 0] [.arr 28 r.2.2.2.2.1 false,.box ([.lit (.int .i64 r.2.2.2.2.2.1),.sl 69 r.2.2.2.2.2.2]) false]
def z3a:LL ty zyG:=za (lSl 28) (za (lSl 28) (za (zdh 264) (za zj (za zj (za (zdR 265 0) (za zj zk))))))
def z4y:BL ty zyU:=zdj 28 false (zff (za (zI .i64) (za (lSl 69) zk)) false (z6))
def zrU (a:yC) (b:yC) (i:Int) (k:Int) (out_:yC):Wy zyT zh6 zQj:=.i (decide (k<Int.ofNat b.length)) (.i (decide (0<=i)&&decide (i<Int.ofNat a.length)) (.i (decide (0<=k)&&decide (k<Int.ofNat b.length)) (.bn (zEa (a.getD i.toNat default).Cf (b.getD k.toNat default).Cf) λr4=>.i (decide (0<=i)&&decide (i<Int.ofNat a.length)) (.bn (zMA ((a.length+b.length+i.toNat +k.toNat +Int.toNat 0+out_.length+r4.toNat +(a.getD i.toNat default).Fs.length+1)+zbV a+zbV b+zbV out_+zLq (a.getD i.toNat default).Fs) a b i k 0 out_ r4 (a.getD i.toNat default).Fs) λr3=>.bn (zxM r3.2.2.2.2.1 (TO.mk r3.2.2.2.2.2.1 r3.2.2.2.2.2.2)) λr2=>.h ((r3.1),(r3.2.1),(),(r3.2.2.1),(IntKind.i64.wrap (r3.2.2.2.1+1)),()) ((r2),())) .d) .d) .d) (.k (a,b,i,out_))
def zEZ (x:zyT) (y:zh6):=zrU x.1 x.2.1 x.2.2.2.1 x.2.2.2.2.1 y.1
def zOU (n:Nat) (a:yC) (b:yC) (i:Int) (k:Int) (out_:yC):=zy (zEZ) default n (a,b,(),i,k,()) (out_,())
def z4g (r:zQj):LTree ty:=.done (.exit 2) [.sl 28 r.1,.sl 28 r.2.1,.own 264,.lit (.int .i64 r.2.2.1)] [.arr 28 r.2.2.2 false]
def z5X:LL ty zyT:=za (lSl 28) (za (lSl 28) (za (zdh 264) (za zj (za zj zk))))
def z5R:BL ty zh6:=zdj 28 false (z6)
def zrR (a:yC) (b:yC) (i:Int) (out_:yC):Wy zyv zh6 (yC):=.i (decide (i<Int.ofNat a.length)) (.bn (zOU ((a.length+b.length+i.toNat +Int.toNat 0+out_.length+1)+zbV a+zbV b+zbV out_) a b i 0 out_) λr8=>.h ((r8.1),(r8.2.1),(),(IntKind.i64.wrap (r8.2.2.1+1)),()) ((r8.2.2.2),())) (.k out_)
def zEC (x:zyv) (y:zh6):=zrR x.1 x.2.1 x.2.2.2.1 y.1
def zOZ (n:Nat) (a:yC) (b:yC) (i:Int) (out_:yC):=zy (zEC) default n (a,b,(),i,()) (out_,())
def z3m (r:yC):LTree ty:=.done (.exit 0) [.own 264] [.arr 28 r false]
def z6g:LL ty zyv:=za (lSl 28) (za (lSl 28) (za (zdh 264) (za zj zk)))
def z2k (x:zyG) (y:zyU):Nat:=((x.1.length+x.2.1.length+Int.toNat x.2.2.2.1+Int.toNat x.2.2.2.2.1+Int.toNat x.2.2.2.2.2.2.1+y.1.length+Int.toNat y.2.1.1+y.2.1.2.1.length+1)+zbV x.1+zbV x.2.1+zbV y.1+zLq y.2.1.2.1)
def z3W (x:zyT) (y:zh6):Nat:=((x.1.length+x.2.1.length+Int.toNat x.2.2.2.1+Int.toNat x.2.2.2.2.1+y.1.length+1)+zbV x.1+zbV x.2.1+zbV y.1)
def z3o (x:zyv) (y:zh6):Nat:=((x.1.length+x.2.1.length+Int.toNat x.2.2.2.1+y.1.length+1)+zbV x.1+zbV x.2.1+zbV y.1)
def zyZ:=zbY base 66 [(56,zPy),(57,zMC),(58,zCC)] [] [(3,(kpL [0,1,5,6])),(6,(kpL [0,1,5,6,7])),(10,(kpL [0,1,5,6,7,8,9]))] [(3,1,(kpL [5])),(6,3,(kpL [0,1,5,6])),(10,5,(kpL [0,1,5,6,7,8]))] [(10,spW z3a z4y (zDn) default z1s z2k),(6,spW z5X z5R (zEZ) default z4g z3W),(3,spW z6g z5R (zEC) default z3m z3o)] []
theorem z1L:zA zyZ (lp (body f17) 2):=zp (id:=10) (hl:=rfl)
theorem z3s:zA zyZ (lp (body f17) 1):=zp (id:=6) (hl:=rfl)
theorem z4b:zA zyZ (lp (body f17) 0):=zp (id:=3) (hl:=rfl)
def zRN (a:yC) (b:yC):Wy0 (yC):=.bn (zOZ ((a.length+b.length+Int.toNat 0+0+1)+zbV a+zbV b+zbV []) a b 0 []) λr10=>.k r10
def zoQ (a:yC) (b:yC):=(zRN a b).fin default
def zB9:=zh zWv λx=>((zoQ x.1 x.2.1).1,zSt (zoQ x.1 x.2.1).2)
theorem zH5:SdP 17 zB9:=
 sT (cx':=zyZ) (zi ⟨z3G,z0h,zGW,trivial⟩) call17 func17 (lOK (aC z4b (aC z3s (aC z1L aN)))) (sg:=⟨[.own 28],[]⟩)
abbrev zGT:=yC×yC×Int×Unit
def zCl (a:yC) (b:yC) (i:Int):Wy zGT Unit (yC):=.i (decide (i<Int.ofNat b.length)) (.i (decide (0<=i)&&decide (i<Int.ofNat b.length)) (.bn (zxM a (b.getD i.toNat default)) λr0=>.h ((r0),b,(IntKind.i64.wrap (i+1)),()) ()) .d) (.k a)
def zPB (x:zGT) (y:Unit):=zCl x.1 x.2.1 x.2.2.1
def z1M (n:Nat) (a:yC) (b:yC) (i:Int):=zy (zPB) default n (a,b,i,()) ()
def zbcU (r:yC):LTree ty:=.done (.exit 0) [.sl 28 r] []
def zbfr:LL ty zGT:=za (lSl 28) (za (lSl 28) (za zj zk))
def zbdc (x:zGT) (y:Unit):Nat:=(x.1.length+x.2.1.length+Int.toNat x.2.2.1+1)
def z11:=zbY base 19 [(58,zCC)] [] [(2,[(0,.sl 28),(1,.keep),(5,.keep)])] [(2,1,(kpL [0]))] [(2,spW zbfr zbcZ (zPB) default zbcU zbdc)] []
theorem zbcD:zA z11 (lp (body f45) 0):=zp (id:=2) (hl:=rfl)
def z4W (a:yC) (b:yC):Wy0 (yC):=.bn (z1M (a.length+b.length+Int.toNat 0+1) a b 0) λr2=>.k r2
def zFH (a:yC) (b:yC):=(z4W a b).fin default
def zbcQ (r:yC):ARes ty:=⟨[.pure (.sl 28 r)],[]⟩
def zJt:=zh zWv λx=>((zFH x.1 x.2.1).1,zbcQ (zFH x.1 x.2.1).2)
theorem zR9:SdP 45 zJt:=
 sT (cx':=z11) (zi ⟨zGW,trivial⟩) call45 func45 (lOK (aC zbcD aN))
abbrev zpJ:=yF×yF×Int×Unit
abbrev zHn:=Int⊕(yF×yF)
def zXz (a:yF) (b:yF) (i:Int):Wy zpJ Unit zHn:=.i (decide (i<Int.ofNat a.length)) (.i (decide (i<Int.ofNat b.length)) (.i (decide (0<=i)&&decide (i<Int.ofNat a.length)) (.i (decide (0<=i)&&decide (i<Int.ofNat b.length)) (.bn (zm6 (a.getD i.toNat default) (b.getD i.toNat default)) λr0=>.i (r0 != 0) (.k (.inl (r0))) (.h (a,b,(IntKind.i64.wrap (i+1)),()) ())) .d) .d) (.k (.inr (a,b)))) (.k (.inr (a,b)))
def zHf (x:zpJ) (y:Unit):=zXz x.1 x.2.1 x.2.2.1
def zW7 (n:Nat) (a:yF) (b:yF) (i:Int):=zy (zHf) (.inl default) n (a,b,i,()) ()
def zVC (r:zHn):LTree ty:=.ite (isL r) (.done .ret [.lit (.int .i64 (getL r))] []) (.done (.exit 0) [.sl 49 (getR r).1,.sl 49 (getR r).2] [])
def zXc:LL ty zpJ:=za (lSl 49) (za (lSl 49) (za zj zk))
def zUX (x:zpJ) (y:Unit):Nat:=(x.1.length+x.2.1.length+Int.toNat x.2.2.1+1000)
def zF2:=zbY base 41 [(105,zw0)] [] [(2,(kpL [0,1,5]))] [(2,1,(kpL [0,1])),(2,0,(kpL [4]))] [(2,spW zXc zbcZ (zHf) (.inl default) zVC zUX)] []
theorem zUN:zA zF2 (lp (body f76) 0):=zp (id:=2) (hl:=rfl)
def zYF (a:yF) (b:yF):Wy0 (Int):=.bn (zW7 (a.length+b.length+Int.toNat 0+1000) a b 0) λr2=>.i (isL r2) (.k (getL r2)) (.i (Int.ofNat (getR r2).1.length==Int.ofNat (getR r2).2.length) (.k 0) (.i (decide (Int.ofNat (getR r2).1.length<Int.ofNat (getR r2).2.length)) (.k (-1:Int)) (.k 1)))
def zDs (a:yF) (b:yF):=(zYF a b).fin default
def zDO:=zh zCN λx=>((zDs x.1 x.2.1).1,zTh (zDs x.1 x.2.1).2)
theorem zQY:SdP 76 zDO:=
 sT (cx':=zF2) (zi ⟨zDY,trivial⟩) call76 func76 (lOK (aC zUN aN))
abbrev zEh:=yB×yB×Int×Unit
def zbck (a:yB) (b:yB) (i:Int):Wy zEh Unit (Bool⊕Unit):=.i (decide (i<Int.ofNat a.length)) (.i (decide (0<=i)&&decide (i<Int.ofNat a.length)) (.i (decide (0<=i)&&decide (i<Int.ofNat b.length)) (.bn (zDs (a.getD i.toNat default) (b.getD i.toNat default)) λr0=>.i (r0 != 0) (.k (.inl false)) (.h (a,b,(IntKind.i64.wrap (i+1)),()) ())) .d) .d) (.k (.inr ()))
def zXZ (x:zEh) (y:Unit):=zbck x.1 x.2.1 x.2.2.1
def zbdb (n:Nat) (a:yB) (b:yB) (i:Int):=zy (zXZ) (.inl default) n (a,b,i,()) ()
def zbcE:LL ty zEh:=za (lSl 43) (za (lSl 43) (za zj zk))
def z96 (x:zEh) (y:Unit):Nat:=(x.1.length+x.2.1.length+Int.toNat x.2.2.1+1000)
def zXV:=zbY base 27 [(76,zDO)] [] [(4,(kpL [0,1,5]))] [(4,1,[]),(4,0,(kpL [4]))] [(4,spW zbcE zbcZ (zXZ) (.inl default) zSy z96)] []
theorem zba8:zA zXV (lp (body f26) 0):=zp (id:=4) (hl:=rfl)
def zbd0 (a:yB) (b:yB):Wy0 (Bool):=.i (Int.ofNat a.length != Int.ofNat b.length) (.k false) (.bn (zbdb (a.length+b.length+Int.toNat 0+1000) a b 0) λr2=>.i (isL r2) (.k (getL r2)) (.k true))
def zXw (a:yB) (b:yB):=(zbd0 a b).fin default
def zSc:=zh z5I λx=>((zXw x.1 x.2.1).1,zYA (zXw x.1 x.2.1).2)
theorem z6y:SdP 26 zSc:=
 sT (cx':=zXV) (zi ⟨zQY,trivial⟩) call26 func26 (lOK (aC zba8 aN))
abbrev zI3:=yC×yC×yC×Unit×Int×Unit×Unit×Unit×Unit
abbrev zJc:=yB×(Int×Int×Unit)×(Int×Int×Unit)×(Int×Int×Unit)×Unit
def z9Y (x_:yC) (y_:yC) (a:yC) (e:Int) (l:yB) (one_0:Int) (one_1:Int) (two_0:Int) (two_1:Int) (three_0:Int) (three_1:Int):Wy zI3 zJc (Bool):=.bn (zjl a) λr7=>.bn (zoQ y_ y_) λr6=>.bn (zFH x_ r6) λr5=>.bn (ziN r7 r5) λr4=>.i (r4) (.i (e==0) (.bn (zXw l [[RowID.mk one_0 one_1,RowID.mk two_0 two_1],[RowID.mk one_0 one_1,RowID.mk three_0 three_1]]) λr3=>.i (r3) (.bn (zDk a a) λr2=>.i (r2) (.i (decide ((0:Int)<=(0:Int))&&decide (0<Int.ofNat x_.length)) (.bn (zoQ x_ y_) λr1=>.i (decide ((0:Int)<=(0:Int))&&decide (0<Int.ofNat r1.length)) (.bn (zf8 (x_.getD (Int.toNat 0) default) (r1.getD (Int.toNat 0) default)) λr0=>.k r0) .d) .d) (.k false)) (.k false)) (.k false)) (.k false)
def z9S (x:zI3) (y:zJc):=z9Y x.1 x.2.1 x.2.2.1 x.2.2.2.2.1 y.1 y.2.1.1 y.2.1.2.1 y.2.2.1.1 y.2.2.1.2.1 y.2.2.2.1.1 y.2.2.2.1.2.1
def z9Q (r:Bool):LTree ty:=.done .ret [.lit (.bool r)] []
def zbbf:LL ty zI3:=za (lSl 28) (za (lSl 28) (za (lSl 28) (za (zdh 328) (za zj (za (zdR 329 0) (za (zdR 330 0) (za (zdR 331 0) zk)))))))
def zbaY:BL ty zJc:=zdj 43 false (zff (za (zI .i64) (za (zI .i64) zk)) false (zff (za (zI .i64) (za (zI .i64) zk)) false (zff (za (zI .i64) (za (zI .i64) zk)) false (z6))))
def zUC:=zbds zbH 82 [(14,zmq),(17,zB9),(18,zD2),(22,znh),(24,zAU),(26,zSc),(30,zuy),(44,zH4),(45,zJt),(46,zEG),(47,zEH)] [] [(6,[(1,.sl 28),(2,.sl 28),(4,.sl 28),(7,.keep),(8,.keep),(9,.keep),(10,.keep),(11,.keep)])] [(6,0,(kpL [0]))] [] [] [(6,spW zbbf zbaY (z9S) default z9Q λx y=>(1))]
theorem z9C:zHh zUC (jn (body f12) 6):=zI6 (id:=6) (hl:=rfl)
def zbcP:Wy0 (Bool):=.k true
def z42:Bool×Bool:=(zbcP).fin default
def zbct:AL zbH (Unit):=zo
def zPl:=zh zbct λx=>((z42 ).1,zYA (z42 ).2)
theorem z34:Sound Tryz.prog zbH 12 zPl:=
 z2F (cx':=zUC) zGn zQi zbg4 (zbdu ⟨zsb.nodr,zH5.nodr,zQ5.nodr,ztA,zMa.nodr,z6y.nodr,zyY.nodr,zWa.nodr,zR9.nodr,zMz.nodr,zMM.nodr,trivial⟩) call12 func12 (c:=body f12) (by kernel_rfl) (zX9 (l:=[]) (by kernel_rfl) trivial (js:=[jn (body f12) 6]) (by kernel_rfl) ⟨z9C,trivial⟩) (sg:=⟨[.pure],[]⟩)
def z93:AL base (yC×Int×Int×Unit):=zc (ze (vSl 28)) (zc (ze (zgG .i64)) (zc (ze (zgG .i64)) zo))
def zwv (F:yC->Int->Int->Bool×Int):Ab.Spec ty:=zh z93 λx=>((F x.1 x.2.1 x.2.2.1).1,zTh (F x.1 x.2.1 x.2.2.1).2)
abbrev zjz:=yC×Int×Int×Int×Int×Int×Unit×Int×Unit
abbrev zRz:=yC×Int×Int×Int×Int×Int×At
abbrev zRg:=yC×Int×Int×Int×Int×Int
abbrev zAR:=yC×Int×Int×Int×Int×Int×Unit
abbrev zRC:=yC×Int×Int×Int×Int
abbrev zAO:=yC×Int×Int×Int×Int×Unit
def zBx (zM:yC->Int->Int->Bool×Int) (a:yC) (limit:Int) (zdp:Int) (n_:Int) (i:Int) (k:Int) (j:Int) (x_:At):Wy zjz (At×Unit) zRz:=.i (decide (j<Int.ofNat x_.Ag.length)) (.i (decide (n_<=limit)) (.i (decide (0<=j)&&decide (j<Int.ofNat x_.Ag.length)) (.bn (zM (x_.Ag.getD j.toNat default) (IntKind.i64.wrap (limit - n_)) (IntKind.i64.wrap (zdp - 1))) λr0=>.h (a,limit,zdp,(IntKind.i64.wrap (n_+r0)),i,k,(),(IntKind.i64.wrap (j+1)),()) (x_,())) .d) (.k (a,limit,zdp,n_,i,k,x_))) (.k (a,limit,zdp,n_,i,k,x_))
def zKf (zM:yC->Int->Int->Bool×Int) (x:zjz) (y:At×Unit):=zBx zM x.1 x.2.1 x.2.2.1 x.2.2.2.1 x.2.2.2.2.1 x.2.2.2.2.2.1 x.2.2.2.2.2.2.2.1 y.1
def zBK (zM:yC->Int->Int->Bool×Int) (n:Nat) (a:yC) (limit:Int) (zdp:Int) (n_:Int) (i:Int) (k:Int) (j:Int) (x_:At):=zy (zKf zM) default n (a,limit,zdp,n_,i,k,(),j,()) (x_,())
def zZe (r:zRz):LTree ty:=.done (.exit 4) [.sl 28 r.1,.lit (.int .i64 r.2.1),.lit (.int .i64 r.2.2.1),.lit (.int .i64 r.2.2.2.1),.lit (.int .i64 r.2.2.2.2.1),.lit (.int .i64 r.2.2.2.2.2.1),.ptr 544 0] [.box (base.enc 67 r.2.2.2.2.2.2) false]
def z1m:LL ty zjz:=za (lSl 28) (za zj (za zj (za zj (za zj (za zj (za (zdR 544 0) (za zj zk)))))))
def zBi (zM:yC->Int->Int->Bool×Int) (a:yC) (limit:Int) (zdp:Int) (n_:Int) (i:Int) (k:Int) (j:Int) (x_:At):Wy zjz (At×Unit) zRg:=.i (decide (j<Int.ofNat x_.Items.length)) (.i (decide (n_<=limit)) (.i (decide (0<=j)&&decide (j<Int.ofNat x_.Items.length)) (.i (decide (0<=j)&&decide (j<Int.ofNat x_.Items.length)) (.bn (zM (x_.Items.getD j.toNat default).Ann (IntKind.i64.wrap (limit - n_)) (IntKind.i64.wrap (zdp - 1))) λr2=>.h (a,limit,zdp,(IntKind.i64.wrap (IntKind.i64.wrap (n_+Int.ofNat (x_.Items.getD j.toNat default).Value.Text.size)+r2)),i,k,(),(IntKind.i64.wrap (j+1)),()) (x_,())) .d) .d) (.k (a,limit,zdp,n_,i,k))) (.k (a,limit,zdp,n_,i,k))
def zJ3 (zM:yC->Int->Int->Bool×Int) (x:zjz) (y:At×Unit):=zBi zM x.1 x.2.1 x.2.2.1 x.2.2.2.1 x.2.2.2.2.1 x.2.2.2.2.2.1 x.2.2.2.2.2.2.2.1 y.1
def zB8 (zM:yC->Int->Int->Bool×Int) (n:Nat) (a:yC) (limit:Int) (zdp:Int) (n_:Int) (i:Int) (k:Int) (j:Int) (x_:At):=zy (zJ3 zM) default n (a,limit,zdp,n_,i,k,(),j,()) (x_,())
def zYE (r:zRg):LTree ty:=.done (.exit 6) [.sl 28 r.1,.lit (.int .i64 r.2.1),.lit (.int .i64 r.2.2.1),.lit (.int .i64 r.2.2.2.1),.lit (.int .i64 r.2.2.2.2.1),.lit (.int .i64 r.2.2.2.2.2)] []
def zDB (zM:yC->Int->Int->Bool×Int) (a:yC) (limit:Int) (zdp:Int) (n_:Int) (i:Int) (k:Int):Wy zAR Unit zRC:=.i (decide (0<=i)&&decide (i<Int.ofNat a.length)) (.i (decide (k<Int.ofNat (a.getD i.toNat default).Fs.length)) (.i (decide (n_<=limit)) (.i (decide (0<=i)&&decide (i<Int.ofNat a.length)) (.i (decide (0<=k)&&decide (k<Int.ofNat (a.getD i.toNat default).Fs.length)) (.bn (zBK zM (a.length+limit.toNat +zdp.toNat +(IntKind.i64.wrap (IntKind.i64.wrap (IntKind.i64.wrap (n_+Int.ofNat ((a.getD i.toNat default).Fs.getD k.toNat default).At.Items.length)+Int.ofNat ((a.getD i.toNat default).Fs.getD k.toNat default).At.Ag.length)+Int.ofNat ((a.getD i.toNat default).Fs.getD k.toNat default).At.Bd.Text.size)).toNat +i.toNat +k.toNat +Int.toNat 0+((a.getD i.toNat default).Fs.getD k.toNat default).At.Ag.length+((a.getD i.toNat default).Fs.getD k.toNat default).At.Items.length+1) a limit zdp (IntKind.i64.wrap (IntKind.i64.wrap (IntKind.i64.wrap (n_+Int.ofNat ((a.getD i.toNat default).Fs.getD k.toNat default).At.Items.length)+Int.ofNat ((a.getD i.toNat default).Fs.getD k.toNat default).At.Ag.length)+Int.ofNat ((a.getD i.toNat default).Fs.getD k.toNat default).At.Bd.Text.size)) i k 0 (At.mk ((a.getD i.toNat default).Fs.getD k.toNat default).At.Kind ((a.getD i.toNat default).Fs.getD k.toNat default).At.Row ((a.getD i.toNat default).Fs.getD k.toNat default).At.Ag ((a.getD i.toNat default).Fs.getD k.toNat default).At.Func ((a.getD i.toNat default).Fs.getD k.toNat default).At.Items ((a.getD i.toNat default).Fs.getD k.toNat default).At.Op ((a.getD i.toNat default).Fs.getD k.toNat default).At.Bd)) λr5=>.bn (zB8 zM (r5.1.length+r5.2.1.toNat +r5.2.2.1.toNat +r5.2.2.2.1.toNat +r5.2.2.2.2.1.toNat +r5.2.2.2.2.2.1.toNat +Int.toNat 0+r5.2.2.2.2.2.2.Ag.length+r5.2.2.2.2.2.2.Items.length+1) r5.1 r5.2.1 r5.2.2.1 r5.2.2.2.1 r5.2.2.2.2.1 r5.2.2.2.2.2.1 0 (At.mk r5.2.2.2.2.2.2.Kind r5.2.2.2.2.2.2.Row r5.2.2.2.2.2.2.Ag r5.2.2.2.2.2.2.Func r5.2.2.2.2.2.2.Items r5.2.2.2.2.2.2.Op r5.2.2.2.2.2.2.Bd)) λr4=>.h ((r4.1),(r4.2.1),(r4.2.2.1),(r4.2.2.2.1),(r4.2.2.2.2.1),(IntKind.i64.wrap (r4.2.2.2.2.2+1)),()) ()) .d) .d) (.k (a,limit,zdp,n_,i))) (.k (a,limit,zdp,n_,i))) .d
def zMG (zM:yC->Int->Int->Bool×Int) (x:zAR) (y:Unit):=zDB zM x.1 x.2.1 x.2.2.1 x.2.2.2.1 x.2.2.2.2.1 x.2.2.2.2.2.1
def zDb (zM:yC->Int->Int->Bool×Int) (n:Nat) (a:yC) (limit:Int) (zdp:Int) (n_:Int) (i:Int) (k:Int):=zy (zMG zM) default n (a,limit,zdp,n_,i,k,()) ()
def z1N (r:zRC):LTree ty:=.done (.exit 2) [.sl 28 r.1,.lit (.int .i64 r.2.1),.lit (.int .i64 r.2.2.1),.lit (.int .i64 r.2.2.2.1),.lit (.int .i64 r.2.2.2.2)] []
def z3w:LL ty zAR:=za (lSl 28) (za zj (za zj (za zj (za zj (za zj zk)))))
def zDD (zM:yC->Int->Int->Bool×Int) (a:yC) (limit:Int) (zdp:Int) (n_:Int) (i:Int):Wy zAO Unit (Int):=.i (decide (i<Int.ofNat a.length)) (.i (decide (n_<=limit)) (.i (decide (0<=i)&&decide (i<Int.ofNat a.length)) (.bn (zDb zM (a.length+limit.toNat +zdp.toNat +(IntKind.i64.wrap (IntKind.i64.wrap (n_+1)+Int.ofNat (a.getD i.toNat default).Fs.length)).toNat +i.toNat +Int.toNat 0+1) a limit zdp (IntKind.i64.wrap (IntKind.i64.wrap (n_+1)+Int.ofNat (a.getD i.toNat default).Fs.length)) i 0) λr8=>.h ((r8.1),(r8.2.1),(r8.2.2.1),(r8.2.2.2.1),(IntKind.i64.wrap (r8.2.2.2.2+1)),()) ()) .d) (.k n_)) (.k n_)
def zMv (zM:yC->Int->Int->Bool×Int) (x:zAO) (y:Unit):=zDD zM x.1 x.2.1 x.2.2.1 x.2.2.2.1 x.2.2.2.2.1
def zDl (zM:yC->Int->Int->Bool×Int) (n:Nat) (a:yC) (limit:Int) (zdp:Int) (n_:Int) (i:Int):=zy (zMv zM) default n (a,limit,zdp,n_,i,()) ()
def z3Z:LL ty zAO:=za (lSl 28) (za zj (za zj (za zj (za zj zk))))
def zZi (x:zjz) (y:At×Unit):Nat:=(x.1.length+Int.toNat x.2.1+Int.toNat x.2.2.1+Int.toNat x.2.2.2.1+Int.toNat x.2.2.2.2.1+Int.toNat x.2.2.2.2.2.1+Int.toNat x.2.2.2.2.2.2.2.1+y.1.Ag.length+y.1.Items.length+1)
def z0R (x:zAR) (y:Unit):Nat:=(x.1.length+Int.toNat x.2.1+Int.toNat x.2.2.1+Int.toNat x.2.2.2.1+Int.toNat x.2.2.2.2.1+Int.toNat x.2.2.2.2.2.1+1)
def z1B (x:zAO) (y:Unit):Nat:=(x.1.length+Int.toNat x.2.1+Int.toNat x.2.2.1+Int.toNat x.2.2.2.1+Int.toNat x.2.2.2.2.1+1)
def zpo (zM:yC->Int->Int->Bool×Int):=zbY base 136 [(48,(zwv zM))] [] [(5,(kpL [0,1,2,7,8])),(9,(kpL [0,1,2,7,8,9])),(14,(kpL [0,1,2,7,8,9,10,11])),(18,(kpL [0,1,2,7,8,9,10,12]))] [(5,1,(kpL [7])),(9,3,(kpL [0,1,2,7,8])),(14,5,(kpL [0,1,2,7,8,9,10])),(18,7,(kpL [0,1,2,7,8,9]))] [(14,spW z1m zZu (zKf zM) default zZe zZi),(18,spW z1m zZu (zJ3 zM) default zYE zZi),(9,spW z3w zbcZ (zMG zM) default z1N z0R),(5,spW z3Z zbcZ (zMv zM) default zUy z1B)] []
theorem zY8 (zM:yC->Int->Int->Bool×Int):zA (zpo zM) (lp (body f48) 2):=zp (id:=14) (hl:=rfl)
theorem zY2 (zM:yC->Int->Int->Bool×Int):zA (zpo zM) (lp (body f48) 3):=zp (id:=18) (hl:=rfl)
theorem z19 (zM:yC->Int->Int->Bool×Int):zA (zpo zM) (lp (body f48) 1):=zp (id:=9) (hl:=rfl)
theorem z2m (zM:yC->Int->Int->Bool×Int):zA (zpo zM) (lp (body f48) 0):=zp (id:=5) (hl:=rfl)
def zEV (zM:yC->Int->Int->Bool×Int) (a:yC) (limit:Int) (zdp:Int):Wy0 (Int):=.i (zdp==0) (.k (IntKind.i64.wrap (limit+1))) (.bn (zDl zM (a.length+limit.toNat +zdp.toNat +Int.toNat 0+Int.toNat 0+1) a limit zdp 0 0) λr10=>.k r10)
def zw1 (zM:yC->Int->Int->Bool×Int) (a:yC) (limit:Int) (zdp:Int):=(zEV zM a limit zdp).fin default
theorem zWX (zM:yC->Int->Int->Bool×Int) (z5V:SdP 48 (zwv zM)):SdP 48 (zwv (zw1 zM)):=
 sT (cx':=(zpo zM)) (zi ⟨z5V,trivial⟩) call48 func48 (lOK (aC (z2m zM) (aC (z19 zM) (aC (zY8 zM) (aC (zY2 zM) aN)))))
def z4V:Nat->(yC->Int->Int->Bool×Int)
 | 0=>λ_ _ _=>(false,default)
 | n+1=>zw1 (z4V n)
def zqG (n:Nat):yC->Int->Int->Bool×Int:=z4V n
theorem zMX (n:Nat):zqG (n+1)=zw1 (zqG n):=rfl
theorem zYi:∀ n,SdP 48 (zwv (zqG n))
 | 0=>z8 call48 (λ_=>rfl)
 | n+1=>by
  have ih:=zYi n;exact zWX _ (ih)
def zOz:yC->Int->Int->Bool×Int:=zqG 1000
def zMD:Ab.Spec ty:=zwv zOz
theorem z02:SdP 48 zMD:=(zYi 1000)
abbrev zGi:=Int×yA×Int×Unit
def zQo (limit:Int) (l:yA) (i:Int):Wy zGi Unit (Bool⊕Unit):=.i (decide (i<Int.ofNat l.length)) (.i (decide (0<=i)&&decide (i<Int.ofNat l.length)) (.bn (zOz (l.getD i.toNat default) limit 12) λr0=>.i (decide (r0>limit)) (.k (.inl false)) (.h (limit,l,(IntKind.i64.wrap (i+1)),()) ())) .d) (.k (.inr ()))
def z0S (x:zGi) (y:Unit):=zQo x.1 x.2.1 x.2.2.1
def zPw (n:Nat) (limit:Int) (l:yA) (i:Int):=zy (z0S) (.inl default) n (limit,l,i,()) ()
def zbfB:LL ty zGi:=za zj (za (lSl 23) (za zj zk))
def zbcx (x:zGi) (y:Unit):Nat:=(Int.toNat x.1+x.2.1.length+Int.toNat x.2.2.1+1)
def z0j:=zbY base 20 [(48,zMD)] [] [(2,(kpL [0,1,5]))] [(2,1,[]),(2,0,(kpL [4]))] [(2,spW zbfB zbcZ (z0S) (.inl default) zSy zbcx)] []
theorem zbcT:zA z0j (lp (body f13) 0):=zp (id:=2) (hl:=rfl)
def z5n (limit:Int) (l:yA):Wy0 (Bool):=.bn (zPw (limit.toNat +l.length+Int.toNat 0+1) limit l 0) λr2=>.i (isL r2) (.k (getL r2)) (.k true)
def zBI (limit:Int) (l:yA):=(z5n limit l).fin default
def zbgb:AL base (Int×yA×Unit):=zc (ze zf3) (zc (ze (vSl 23)) zo)
def zUt:=zh zbgb λx=>((zBI x.1 x.2.1).1,zYA (zBI x.1 x.2.1).2)
theorem z8z:SdP 13 zUt:=
 sT (cx':=z0j) (zi ⟨z02,trivial⟩) call13 func13 (lOK (aC zbcT aN))
def zbfF:=zbl base 20 [(16,zfc),(45,zJt),(101,znb)]
def zTq (a:yC) (b:yC):Wy0 (yC×Int):=.bn (zeR a) λr3=>.i (!r3) (.k ([],1)) (.bn (zeR b) λr2=>.i (!r2) (.k ([],1)) (.bn (zFH a b) λr1=>.bn (znD r1) λr0=>.k (r0.1,r0.2)))
def zxT (a:yC) (b:yC):=(zTq a b).fin default
def zJs:=zh zWv λx=>((zxT x.1 x.2.1).1,zbcO (zxT x.1 x.2.1).2)
theorem zRy:SdP 93 zJs:=
 sT (cx':=zbfF) (zi ⟨zfD,zR9,zox,trivial⟩) call93 func93 (lOK aN) (sg:=⟨[.pure,.pure],[]⟩)
abbrev zx5:=Unit×Unit×Int×Bool×Int×Unit
abbrev zgz:=Term×Term×Unit
abbrev zQk:=Int×Bool×Term×Term
abbrev zx9:=Unit×Unit×Int×Unit
def zEN (i:Int) (found:Bool) (k:Int) (a:Term) (b:Term):Wy zx5 zgz zQk:=.i (decide (k<Int.ofNat b.Fs.length)) (.i (found) (.h ((),(),i,true,(IntKind.i64.wrap (k+1)),()) (a,b,())) (.i (decide (0<=i)&&decide (i<Int.ofNat a.Fs.length)) (.i (decide (0<=k)&&decide (k<Int.ofNat b.Fs.length)) (.bn (zju (At.mk (a.Fs.getD i.toNat default).At.Kind (a.Fs.getD i.toNat default).At.Row (a.Fs.getD i.toNat default).At.Ag (a.Fs.getD i.toNat default).At.Func (a.Fs.getD i.toNat default).At.Items (a.Fs.getD i.toNat default).At.Op (a.Fs.getD i.toNat default).At.Bd) (At.mk (b.Fs.getD k.toNat default).At.Kind (b.Fs.getD k.toNat default).At.Row (b.Fs.getD k.toNat default).At.Ag (b.Fs.getD k.toNat default).At.Func (b.Fs.getD k.toNat default).At.Items (b.Fs.getD k.toNat default).At.Op (b.Fs.getD k.toNat default).At.Bd)) λr0=>.i (r0==0) (.i (decide (0<=i)&&decide (i<Int.ofNat a.Fs.length)) (.i (decide (0<=k)&&decide (k<Int.ofNat b.Fs.length)) (.h ((),(),i,(decide ((a.Fs.getD i.toNat default).Exp<=(b.Fs.getD k.toNat default).Exp)),(IntKind.i64.wrap (k+1)),()) (a,b,())) .d) .d) (.h ((),(),i,false,(IntKind.i64.wrap (k+1)),()) (a,b,()))) .d) .d)) (.k (i,found,a,b))
def zOg (x:zx5) (y:zgz):=zEN x.2.2.1 x.2.2.2.1 x.2.2.2.2.1 y.1 y.2.1
def zEJ (n:Nat) (i:Int) (found:Bool) (k:Int) (a:Term) (b:Term):=zy (zOg) default n ((),(),i,found,k,()) (a,b,())
def z4S (r:zQk):LTree ty:=.done (.exit 2) [.ptr 224 0,.ptr 225 0,.lit (.int .i64 r.1),.lit (.bool r.2.1)] [.box (base.enc 28 r.2.2.1) false,.box (base.enc 28 r.2.2.2) false]
def z6d:LL ty zx5:=za (zdR 224 0) (za (zdR 225 0) (za zj (za zblq (za zj zk))))
def z7s:BL ty zgz:=zff (zeK (λx=>(⟨x.1,x.2.1⟩:Term)) (λx=>(x.Cf,x.Fs,())) (λ_=>rfl) (za (zI .i64) (za (lSl 69) zk))) false (zff (zeK (λx=>(⟨x.1,x.2.1⟩:Term)) (λx=>(x.Cf,x.Fs,())) (λ_=>rfl) (za (zI .i64) (za (lSl 69) zk))) false (z6))
def zEO (i:Int) (a:Term) (b:Term):Wy zx9 zgz (Bool⊕Unit):=.i (decide (i<Int.ofNat a.Fs.length)) (.bn (zEJ (i.toNat +Int.toNat 0+a.Fs.length+b.Fs.length+1000) i false 0 a b) λr2=>.i (!r2.2.1) (.k (.inl false)) (.h ((),(),(IntKind.i64.wrap (r2.1+1)),()) ((r2.2.2.1),(r2.2.2.2),()))) (.k (.inr ()))
def zO7 (x:zx9) (y:zgz):=zEO x.2.2.1 y.1 y.2.1
def zET (n:Nat) (i:Int) (a:Term) (b:Term):=zy (zO7) (.inl default) n ((),(),i,()) (a,b,())
def z7b:LL ty zx9:=za (zdR 224 0) (za (zdR 225 0) (za zj zk))
def z4F (x:zx5) (y:zgz):Nat:=(Int.toNat x.2.2.1+Int.toNat x.2.2.2.2.1+y.1.Fs.length+y.2.1.Fs.length+1000)
def z4A (x:zx9) (y:zgz):Nat:=(Int.toNat x.2.2.1+y.1.Fs.length+y.2.1.Fs.length+1000)
def zEX:=zbY base 56 [(53,znn)] [] [(2,(kpL [2,3,5])),(6,(kpL [2,3,5,6,7]))] [(2,1,[]),(2,0,(kpL [4])),(6,3,(kpL [2,3,5,6]))] [(6,spW z6d z7s (zOg) default z4S z4F),(2,spW z7b z7s (zO7) (.inl default) zSy z4A)] []
theorem z4J:zA zEX (lp (body f15) 1):=zp (id:=6) (hl:=rfl)
theorem z3q:zA zEX (lp (body f15) 0):=zp (id:=2) (hl:=rfl)
def zRY (a:Term) (b:Term):Wy0 (Bool):=.bn (zET (Int.toNat 0+a.Fs.length+b.Fs.length+1000) 0 a b) λr4=>.i (isL r4) (.k (getL r4)) (.k true)
def zzB (a:Term) (b:Term):=(zRY a b).fin default
def z9r:AL base zgz:=zc (ze (zcl 28)) (zc (ze (zcl 28)) zo)
def zKc:=zh z9r λx=>((zzB x.1 x.2.1).1,zYA (zzB x.1 x.2.1).2)
theorem zY0:SdP 15 zKc:=
 sT (cx':=zEX) (zi ⟨zsU,trivial⟩) call15 func15 (lOK (aC z3q (aC z4J aN)))
abbrev zA1:=yC×Unit×Int×Bool×Int×Unit
abbrev zhi:=yC×Unit
abbrev zRm:=yC×Int×Bool×yC
abbrev zAJ:=yC×Unit×Int×Unit
def zHm (a:yC) (i:Int) (keep:Bool) (k:Int) (out_:yC):Wy zA1 zhi zRm:=.i (decide (k<Int.ofNat a.length)) (.i (keep) (.i (k==i) (.h (a,(),i,true,(IntKind.i64.wrap (k+1)),()) (out_,())) (.i (decide (0<=k)&&decide (k<Int.ofNat a.length)) (.i (decide (0<=i)&&decide (i<Int.ofNat a.length)) (.bn (zzB (a.getD k.toNat default) (a.getD i.toNat default)) λr0=>.h (a,(),i,(!r0),(IntKind.i64.wrap (k+1)),()) (out_,())) .d) .d)) (.h (a,(),i,false,(IntKind.i64.wrap (k+1)),()) (out_,()))) (.k (a,i,keep,out_))
def zR4 (x:zA1) (y:zhi):=zHm x.1 x.2.2.1 x.2.2.2.1 x.2.2.2.2.1 y.1
def zAw (n:Nat) (a:yC) (i:Int) (keep:Bool) (k:Int) (out_:yC):=zy (zR4) default n (a,(),i,keep,k,()) (out_,())
def z5E (r:zRm):LTree ty:=.done (.exit 2) [.sl 28 r.1,.own 196,.lit (.int .i64 r.2.1),.lit (.bool r.2.2.1)] [.arr 28 r.2.2.2 false]
def z9i:LL ty zA1:=za (lSl 28) (za (zdh 196) (za zj (za zblq (za zj zk))))
def z9g:BL ty zhi:=zdj 28 false (z6)
def zGz (a:yC) (i:Int) (out_:yC):Wy zAJ zhi (yC):=.i (decide (i<Int.ofNat a.length)) (.bn (zAw (a.length+i.toNat +Int.toNat 0+out_.length+1000) a i true 0 out_) λr2=>.i (r2.2.2.1) (.i (decide (0<=r2.2.1)&&decide (r2.2.1<Int.ofNat r2.1.length)) (.i (decide ((r2.2.2.2.length+[TO.mk 1 (r2.1.getD r2.2.1.toNat default).Fs].length)*32<=zG)) (.h ((r2.1),(),(IntKind.i64.wrap (r2.2.1+1)),()) ((r2.2.2.2++[TO.mk 1 (r2.1.getD r2.2.1.toNat default).Fs]),())) .d) .d) (.h ((r2.1),(),(IntKind.i64.wrap (r2.2.1+1)),()) ((r2.2.2.2),()))) (.k out_)
def zR8 (x:zAJ) (y:zhi):=zGz x.1 x.2.2.1 y.1
def zG4 (n:Nat) (a:yC) (i:Int) (out_:yC):=zy (zR8) default n (a,(),i,()) (out_,())
def z85:LL ty zAJ:=za (lSl 28) (za (zdh 196) (za zj zk))
def z6s (x:zA1) (y:zhi):Nat:=(x.1.length+Int.toNat x.2.2.1+Int.toNat x.2.2.2.2.1+y.1.length+1000)
def z7k (x:zAJ) (y:zhi):Nat:=(x.1.length+Int.toNat x.2.2.1+y.1.length+1000)
def zGa:=zbY base 49 [(15,zKc)] [] [(3,(kpL [0,3,4])),(7,(kpL [0,3,4,5,6]))] [(3,1,(kpL [3])),(7,3,(kpL [0,3,4,5]))] [(7,spW z9i z9g (zR4) default z5E z6s),(3,spW z85 z9g (zR8) default zSR z7k)] []
theorem z6C:zA zGa (lp (body f90) 1):=zp (id:=7) (hl:=rfl)
theorem z6f:zA zGa (lp (body f90) 0):=zp (id:=3) (hl:=rfl)
def zVh (a:yC):Wy0 (yC):=.bn (zG4 (a.length+Int.toNat 0+0+1000) a 0 []) λr4=>.k r4
def zxd (a:yC):=(zVh a).fin default
def z9T:AL base zhi:=zc (ze (vSl 28)) zo
def zDe:=zh z9T λx=>((zxd x.1).1,zSt (zxd x.1).2)
theorem zKK:SdP 90 zDe:=
 sT (cx':=zGa) (zi ⟨zY0,trivial⟩) call90 func90 (lOK (aC z6f (aC z6C aN))) (sg:=⟨[.own 28],[]⟩)
def z8a:=zbl base 8 [(16,zfc),(90,zDe)]
def zVq (a:yC):Wy0 (yC):=.bn (zeR a) λr1=>.i (!r1) (.k []) (.bn (zxd a) λr0=>.k r0)
def zws (a:yC):=(zVq a).fin default
def zDj:=zh z2g λx=>((zws x.1).1,zSt (zws x.1).2)
theorem zKN:SdP 31 zDj:=
 sT (cx':=z8a) (zi ⟨zfD,zKK,trivial⟩) call31 func31 (lOK aN) (sg:=⟨[.own 28],[]⟩)
def zbdD:=zbl base 17 [(31,zDj),(93,zJs)]
def z5r (a:yC) (b:yC):Wy0 (yC×Int):=.bn (zxT a b) λr1=>.bn (zws r1.1) λr0=>.k (r0,r1.2)
def zK8 (a:yC) (b:yC):=(z5r a b).fin default
def zUv:=zh zWv λx=>((zK8 x.1 x.2.1).1,zSs (zK8 x.1 x.2.1).2)
theorem z7I:SdP 38 zUv:=
 sT (cx':=zbdD) (zi ⟨zKN,zRy,trivial⟩) call38 func38 (lOK aN) (sg:=⟨[.own 28,.pure],[]⟩)
def zbdG:=zbl base 20 [(16,zfc),(17,zB9),(101,znb)]
def zSp (a:yC) (b:yC):Wy0 (yC×Int):=.bn (zeR a) λr3=>.i (!r3) (.k ([],1)) (.bn (zeR b) λr2=>.i (!r2) (.k ([],1)) (.bn (zoQ a b) λr1=>.bn (znD r1) λr0=>.k (r0.1,r0.2)))
def zxX (a:yC) (b:yC):=(zSp a b).fin default
def zID:=zh zWv λx=>((zxX x.1 x.2.1).1,zbcO (zxX x.1 x.2.1).2)
theorem zR7:SdP 94 zID:=
 sT (cx':=zbdG) (zi ⟨zfD,zH5,zox,trivial⟩) call94 func94 (lOK aN) (sg:=⟨[.pure,.pure],[]⟩)
def zbfo:=zbl base 17 [(31,zDj),(94,zID)]
def z44 (a:yC) (b:yC):Wy0 (yC×Int):=.bn (zxX a b) λr1=>.bn (zws r1.1) λr0=>.k (r0,r1.2)
def zJP (a:yC) (b:yC):=(z44 a b).fin default
def zUf:=zh zWv λx=>((zJP x.1 x.2.1).1,zSs (zJP x.1 x.2.1).2)
theorem z9j:SdP 39 zUf:=
 sT (cx':=zbfo) (zi ⟨zKN,zR7,trivial⟩) call39 func39 (lOK aN) (sg:=⟨[.own 28,.pure],[]⟩)
def z9u:AL base (yC×yG×Unit):=zc (ze (vSl 28)) (zc (ze (vSl 51)) zo)
def zuR (F:yC->yG->Bool×(yC×Int)):Ab.Spec ty:=zh z9u λx=>((F x.1 x.2.1).1,zbcO (F x.1 x.2.1).2)
def zbdP:AL base (At×yG×Unit):=zc (ze (zcl 67)) (zc (ze (vSl 51)) zo)
def zGV (F:At->yG->Bool×(yC×Int)):Ab.Spec ty:=zh zbdP λx=>((F x.1 x.2.1).1,zbcO (F x.1 x.2.1).2)
def z8Q:=zbl base 20 [(16,zfc),(77,zwO),(100,zse),(101,znb),(102,zol)]
def zIZ (a:yC):Wy0 (yC×Int):=.bn (zeR a) λr2=>.i (!r2) (.k ([],1)) (.i (Int.ofNat a.length==0) (.k (zxR.2,0)) (.bn (ziI a) λr1=>.i (r1) (.k ([],0)) (.bn (znD (znv (At.mk 3 (RowID.mk 0 0) [a] 0 [] 0 (Value.mk 0 0 (ByteArray.mk #[])))).2) λr0=>.k (r0.1,r0.2))))
def zri (a:yC):=(zIZ a).fin default
def zMw:=zh z2g λx=>((zri x.1).1,zbcO (zri x.1).2)
theorem z0A:SdP 215 zMw:=
 sT (cx':=z8Q) (zi ⟨zfD,zAV,zyN,zox,zrW,trivial⟩) call215 func215 (lOK aN) (sg:=⟨[.pure,.pure],[]⟩)
def zbaZ:=zbl base 34 [(16,zfc),(30,zuy),(101,znb),(102,zol)]
def zMr (a:yC) (b:yC):Wy0 (yC×Int):=.bn (zeR a) λr3=>.i (!r3) (.k ([],1)) (.bn (zeR b) λr2=>.i (!r2) (.k ([],1)) (.i (Int.ofNat b.length==0) (.k (a,0)) (.i (Int.ofNat a.length==0) (.k ([],0)) (.bn (ziN a b) λr1=>.i (r1) (.k ([],0)) (.bn (znD (znv (At.mk 1 (RowID.mk 0 0) [a,b] 0 [] 0 (Value.mk 0 0 (ByteArray.mk #[])))).2) λr0=>.k (r0.1,r0.2))))))
def zvk (a:yC) (b:yC):=(zMr a b).fin default
def zOG:=zh zWv λx=>((zvk x.1 x.2.1).1,zbcO (zvk x.1 x.2.1).2)
theorem z4R:SdP 214 zOG:=
 sT (cx':=zbaZ) (zi ⟨zfD,zyY,zox,zrW,trivial⟩) call214 func214 (lOK aN) (sg:=⟨[.pure,.pure],[]⟩)
abbrev zCF:=yE×Unit×Int×Int×Unit
abbrev ziP:=yE×Unit
abbrev zUc:=yE×Int×Int×yE
abbrev zCp:=yE×Unit×Int×Unit
def zwX (l:yE) (i:Int) (k:Int) (out_:yE):Wy zCF ziP zUc:=.i (decide (k<Int.ofNat out_.length)) (.i (decide (0<=k)&&decide (k<=IntKind.i64.wrap (k+1))&&decide (IntKind.i64.wrap (k+1)<=Int.ofNat out_.length)) (.i (decide (0<=i)&&decide (i<=IntKind.i64.wrap (i+1))&&decide (IntKind.i64.wrap (i+1)<=Int.ofNat l.length)) (.bn (zt8 (List.take ((IntKind.i64.wrap (k+1)).toNat - k.toNat) (List.drop k.toNat out_)) (List.take ((IntKind.i64.wrap (i+1)).toNat - i.toNat) (List.drop i.toNat l))) λr0=>.i (decide (r0<=0)) (.h (l,(),i,(IntKind.i64.wrap (k+1)),()) (out_,())) (.k (l,i,k,out_))) .d) .d) (.k (l,i,k,out_))
def zIw (x:zCF) (y:ziP):=zwX x.1 x.2.2.1 x.2.2.2.1 y.1
def zU1 (n:Nat) (l:yE) (i:Int) (k:Int) (out_:yE):=zy (zIw) default n (l,(),i,k,()) (out_,())
def z9a (r:zUc):LTree ty:=.done (.exit 2) [.sl 100 r.1,.own 224,.lit (.int .i64 r.2.1),.lit (.int .i64 r.2.2.1)] [.arr 100 r.2.2.2 false]
def zbaR:LL ty zCF:=za (lSl 100) (za (zdh 224) (za zj (za zj zk)))
def zbbs:BL ty ziP:=zdj 100 false (z6)
def zw3 (l:yE) (i:Int) (out_:yE):Wy zCp ziP (yE):=.i (decide (i<Int.ofNat l.length)) (.i (decide (0<=i)&&decide (i<Int.ofNat l.length)) (.i (Int.ofNat (l.getD i.toNat default).Ann.length==0) (.h (l,(),(IntKind.i64.wrap (i+1)),()) (out_,())) (.bn (zU1 (l.length+i.toNat +Int.toNat 0+out_.length+1) l i 0 out_) λr2=>.i (decide ((0:Int)<=(0:Int))&&decide (0<=r2.2.2.1)&&decide (r2.2.2.1<=Int.ofNat r2.2.2.2.length)) (.i (decide ((0+(List.take (r2.2.2.1.toNat - Int.toNat 0) (List.drop (Int.toNat 0) r2.2.2.2)).length)*56<=zG)) (.i (decide (0<=r2.2.1)&&decide (r2.2.1<Int.ofNat r2.1.length)) (.i (decide ((([]++List.take (r2.2.2.1.toNat - Int.toNat 0) (List.drop (Int.toNat 0) r2.2.2.2)).length+[r2.1.getD r2.2.1.toNat default].length)*56<=zG)) (.i (decide (0<=r2.2.2.1)&&decide (r2.2.2.1<=Int.ofNat r2.2.2.2.length)&&decide (Int.ofNat r2.2.2.2.length<=Int.ofNat r2.2.2.2.length)) (.i (decide ((([]++List.take (r2.2.2.1.toNat - Int.toNat 0) (List.drop (Int.toNat 0) r2.2.2.2)++[r2.1.getD r2.2.1.toNat default]).length+(List.take ((Int.ofNat r2.2.2.2.length).toNat - r2.2.2.1.toNat) (List.drop r2.2.2.1.toNat r2.2.2.2)).length)*56<=zG)) (.h ((r2.1),(),(IntKind.i64.wrap (r2.2.1+1)),()) (([]++List.take (r2.2.2.1.toNat - Int.toNat 0) (List.drop (Int.toNat 0) r2.2.2.2)++[r2.1.getD r2.2.1.toNat default]++List.take ((Int.ofNat r2.2.2.2.length).toNat - r2.2.2.1.toNat) (List.drop r2.2.2.1.toNat r2.2.2.2)),())) .d) .d) .d) .d) .d) .d)) .d) (.k out_)
def zIo (x:zCp) (y:ziP):=zw3 x.1 x.2.2.1 y.1
def zTS (n:Nat) (l:yE) (i:Int) (out_:yE):=zy (zIo) default n (l,(),i,()) (out_,())
def z8W (r:yE):LTree ty:=.done (.exit 0) [.own 224] [.arr 100 r false]
def zbbh:LL ty zCp:=za (lSl 100) (za (zdh 224) (za zj zk))
def z9e (x:zCF) (y:ziP):Nat:=(x.1.length+Int.toNat x.2.2.1+Int.toNat x.2.2.2.1+y.1.length+1)
def z74 (x:zCp) (y:ziP):Nat:=(x.1.length+Int.toNat x.2.2.1+y.1.length+1)
def zIO:=zbY base 56 [(106,ztg)] [] [(3,(kpL [0,3,4])),(7,(kpL [0,3,4,5]))] [(3,1,(kpL [3])),(7,3,(kpL [0,3,4,5]))] [(7,spW zbaR zbbs (zIw) default z9a z9e),(3,spW zbbh zbbs (zIo) default z8W z74)] []
theorem z8J:zA zIO (lp (body f240) 1):=zp (id:=7) (hl:=rfl)
theorem z9K:zA zIO (lp (body f240) 0):=zp (id:=3) (hl:=rfl)
def zX2 (l:yE):Wy0 (yE):=.bn (zTS (l.length+Int.toNat 0+0+1) l 0 []) λr4=>.k r4
def zDP (l:yE):=(zX2 l).fin default
def zbcw:AL base ziP:=zc (ze (vSl 100)) zo
def zPH:=zh zbcw λx=>((zDP x.1).1,zWY (zDP x.1).2)
theorem z4u:SdP 240 zPH:=
 sT (cx':=zIO) (zi ⟨zBU,trivial⟩) call240 func240 (lOK (aC z9K (aC z8J aN))) (sg:=⟨[.own 100],[]⟩)
def z6o:=zbl base 30 []
def zRL (op:Int) (sign:Int):Wy0 (Bool):=.i (op==5) (.k (sign==0)) (.i (op==6) (.k (sign != 0)) (.i (op==7) (.k (decide (sign<0))) (.i (op==8) (.k (decide (sign<=0))) (.i (op==9) (.k (decide (sign>0))) (.i (op==10) (.k (decide (sign≥0))) (.k false))))))
def zzp (op:Int) (sign:Int):=(zRL op sign).fin default
def zJU:=zh zYx λx=>((zzp x.1 x.2.1).1,zYA (zzp x.1 x.2.1).2)
theorem zZp:SdP 241 zJU:=
 sT (cx':=z6o) (zi trivial) call241 func241 (lOK aN)
end Go.Proofs.YtljlfiomikifjaaGreatDoor
end
