/- Texts of this claim, joined (the program, its functions in plain words, and what they compute). -/
import Derived.Test.YtnolcogncjijpaaGreatDoorProg
import Derived.Test.YtnolcogncjijpaaGreatDoorGC1
import Derived.Test.YtnolcogncjijpaaGreatDoorGB1
set_option autoImplicit false
set_option linter.unusedVariables false
set_option linter.unusedSectionVars false
set_option linter.unusedSimpArgs false
set_option maxRecDepth 1000000
set_option maxHeartbeats 0
noncomputable section
namespace Go.Proofs.YtnolcogncjijpaaGreatDoor
open Go Go.Ab
open Go.Proofs.Tryz
abbrev zeR:=yB×yE×Int×Int×Unit×Int×Unit
abbrev zzA:=yB×yE×Int×Int×At
abbrev zzy:=yB×yE×Int×Int
abbrev zoX:=yB×yE×Int×Int×Unit
abbrev zAb:=yB×yE×Int
abbrev zoL:=yB×yE×Int×Unit
def zic (zo:yB->Bool×yE) (a:yB) (out_:yE) (i:Int) (k:Int) (j:Int) (x_:At):Wy zeR (At×Unit) zzA:=.i (decide (j<Int.ofNat x_.Ag.length)) (.i (decide (0<=j)&&decide (j<Int.ofNat x_.Ag.length)) (.bn (zo (x_.Ag.getD j.toNat default)) λr27=>.bn (ztK out_ r27) λr26=>.h (a,(r26),i,k,(),(IntKind.i64.wrap (j+1)),()) (x_,())) .d) (.k (a,out_,i,k,x_))
def zqv (zo:yB->Bool×yE) (x:zeR) (y:At×Unit):=zic zo x.1 x.2.1 x.2.2.1 x.2.2.2.1 x.2.2.2.2.2.1 y.1
def zp4 (zo:yB->Bool×yE) (n:Nat) (a:yB) (out_:yE) (i:Int) (k:Int) (j:Int) (x_:At):=zN (zqv zo) default n (a,out_,i,k,(),j,()) (x_,())
def zFD (r:zzA):LTree ty:=.done (.exit 4) [.sl 42 r.1,.sl 25 r.2.1,.lit (.int .i64 r.2.2.1),.lit (.int .i64 r.2.2.2.1),.ptr 296 0] [.box (base.enc 48 r.2.2.2.2) false]
def zHZ:LL ty zeR:=za (lSl 42) (za (lSl 25) (za zm (za zm (za (zeB 296 0) (za zm zr)))))
def zib (zo:yB->Bool×yE) (a:yB) (out_:yE) (i:Int) (k:Int) (j:Int) (x_:At):Wy zeR (At×Unit) zzy:=.i (decide (j<Int.ofNat x_.Items.length)) (.i (decide (0<=j)&&decide (j<Int.ofNat x_.Items.length)) (.bn (zo (x_.Items.getD j.toNat default).Ann) λr31=>.bn (ztK out_ r31) λr30=>.h (a,(r30),i,k,(),(IntKind.i64.wrap (j+1)),()) (x_,())) .d) (.k (a,out_,i,k))
def zpU (zo:yB->Bool×yE) (x:zeR) (y:At×Unit):=zib zo x.1 x.2.1 x.2.2.1 x.2.2.2.1 x.2.2.2.2.2.1 y.1
def zqa (zo:yB->Bool×yE) (n:Nat) (a:yB) (out_:yE) (i:Int) (k:Int) (j:Int) (x_:At):=zN (zpU zo) default n (a,out_,i,k,(),j,()) (x_,())
def zFo (r:zzy):LTree ty:=.done (.exit 6) [.sl 42 r.1,.sl 25 r.2.1,.lit (.int .i64 r.2.2.1),.lit (.int .i64 r.2.2.2)] []
def ziK (zo:yB->Bool×yE) (a:yB) (out_:yE) (i:Int) (k:Int):Wy zoX Unit zAb:=.i (decide (0<=i)&&decide (i<Int.ofNat a.length)) (.i (decide (k<Int.ofNat (a.getD i.toNat default).Fs.length)) (.i (decide (0<=i)&&decide (i<Int.ofNat a.length)) (.i (decide (0<=k)&&decide (k<Int.ofNat (a.getD i.toNat default).Fs.length)) (.i (((a.getD i.toNat default).Fs.getD k.toNat default).At.Kind==0) (.bn (zp0 out_ ((a.getD i.toNat default).Fs.getD k.toNat default).At.Row) λr36=>.bn (zp4 zo (((a.length+r36.length+i.toNat +k.toNat +Int.toNat 0+1)+(At.mk ((a.getD i.toNat default).Fs.getD k.toNat default).At.Kind ((a.getD i.toNat default).Fs.getD k.toNat default).At.Row ((a.getD i.toNat default).Fs.getD k.toNat default).At.Ag ((a.getD i.toNat default).Fs.getD k.toNat default).At.Func ((a.getD i.toNat default).Fs.getD k.toNat default).At.Items ((a.getD i.toNat default).Fs.getD k.toNat default).At.Op ((a.getD i.toNat default).Fs.getD k.toNat default).At.Bd).Ag.length+(At.mk ((a.getD i.toNat default).Fs.getD k.toNat default).At.Kind ((a.getD i.toNat default).Fs.getD k.toNat default).At.Row ((a.getD i.toNat default).Fs.getD k.toNat default).At.Ag ((a.getD i.toNat default).Fs.getD k.toNat default).At.Func ((a.getD i.toNat default).Fs.getD k.toNat default).At.Items ((a.getD i.toNat default).Fs.getD k.toNat default).At.Op ((a.getD i.toNat default).Fs.getD k.toNat default).At.Bd).Items.length)+zdi a) a r36 i k 0 (At.mk ((a.getD i.toNat default).Fs.getD k.toNat default).At.Kind ((a.getD i.toNat default).Fs.getD k.toNat default).At.Row ((a.getD i.toNat default).Fs.getD k.toNat default).At.Ag ((a.getD i.toNat default).Fs.getD k.toNat default).At.Func ((a.getD i.toNat default).Fs.getD k.toNat default).At.Items ((a.getD i.toNat default).Fs.getD k.toNat default).At.Op ((a.getD i.toNat default).Fs.getD k.toNat default).At.Bd)) λr35=>.bn (zqa zo (((r35.1.length+r35.2.1.length+r35.2.2.1.toNat +r35.2.2.2.1.toNat +Int.toNat 0+1)+(At.mk r35.2.2.2.2.Kind r35.2.2.2.2.Row r35.2.2.2.2.Ag r35.2.2.2.2.Func r35.2.2.2.2.Items r35.2.2.2.2.Op r35.2.2.2.2.Bd).Ag.length+(At.mk r35.2.2.2.2.Kind r35.2.2.2.2.Row r35.2.2.2.2.Ag r35.2.2.2.2.Func r35.2.2.2.2.Items r35.2.2.2.2.Op r35.2.2.2.2.Bd).Items.length)+zdi r35.1) r35.1 r35.2.1 r35.2.2.1 r35.2.2.2.1 0 (At.mk r35.2.2.2.2.Kind r35.2.2.2.2.Row r35.2.2.2.2.Ag r35.2.2.2.2.Func r35.2.2.2.2.Items r35.2.2.2.2.Op r35.2.2.2.2.Bd)) λr34=>.h ((r34.1),(r34.2.1),(r34.2.2.1),(IntKind.i64.wrap (r34.2.2.2+1)),()) ()) (.bn (zp4 zo (((a.length+out_.length+i.toNat +k.toNat +Int.toNat 0+1)+(At.mk ((a.getD i.toNat default).Fs.getD k.toNat default).At.Kind ((a.getD i.toNat default).Fs.getD k.toNat default).At.Row ((a.getD i.toNat default).Fs.getD k.toNat default).At.Ag ((a.getD i.toNat default).Fs.getD k.toNat default).At.Func ((a.getD i.toNat default).Fs.getD k.toNat default).At.Items ((a.getD i.toNat default).Fs.getD k.toNat default).At.Op ((a.getD i.toNat default).Fs.getD k.toNat default).At.Bd).Ag.length+(At.mk ((a.getD i.toNat default).Fs.getD k.toNat default).At.Kind ((a.getD i.toNat default).Fs.getD k.toNat default).At.Row ((a.getD i.toNat default).Fs.getD k.toNat default).At.Ag ((a.getD i.toNat default).Fs.getD k.toNat default).At.Func ((a.getD i.toNat default).Fs.getD k.toNat default).At.Items ((a.getD i.toNat default).Fs.getD k.toNat default).At.Op ((a.getD i.toNat default).Fs.getD k.toNat default).At.Bd).Items.length)+zdi a) a out_ i k 0 (At.mk ((a.getD i.toNat default).Fs.getD k.toNat default).At.Kind ((a.getD i.toNat default).Fs.getD k.toNat default).At.Row ((a.getD i.toNat default).Fs.getD k.toNat default).At.Ag ((a.getD i.toNat default).Fs.getD k.toNat default).At.Func ((a.getD i.toNat default).Fs.getD k.toNat default).At.Items ((a.getD i.toNat default).Fs.getD k.toNat default).At.Op ((a.getD i.toNat default).Fs.getD k.toNat default).At.Bd)) λr38=>.bn (zqa zo (((r38.1.length+r38.2.1.length+r38.2.2.1.toNat +r38.2.2.2.1.toNat +Int.toNat 0+1)+(At.mk r38.2.2.2.2.Kind r38.2.2.2.2.Row r38.2.2.2.2.Ag r38.2.2.2.2.Func r38.2.2.2.2.Items r38.2.2.2.2.Op r38.2.2.2.2.Bd).Ag.length+(At.mk r38.2.2.2.2.Kind r38.2.2.2.2.Row r38.2.2.2.2.Ag r38.2.2.2.2.Func r38.2.2.2.2.Items r38.2.2.2.2.Op r38.2.2.2.2.Bd).Items.length)+zdi r38.1) r38.1 r38.2.1 r38.2.2.1 r38.2.2.2.1 0 (At.mk r38.2.2.2.2.Kind r38.2.2.2.2.Row r38.2.2.2.2.Ag r38.2.2.2.2.Func r38.2.2.2.2.Items r38.2.2.2.2.Op r38.2.2.2.2.Bd)) λr37=>.h ((r37.1),(r37.2.1),(r37.2.2.1),(IntKind.i64.wrap (r37.2.2.2+1)),()) ())) .d) .d) (.k (a,out_,i))) .d
def zrw (zo:yB->Bool×yE) (x:zoX) (y:Unit):=ziK zo x.1 x.2.1 x.2.2.1 x.2.2.2.1
def zwW (zo:yB->Bool×yE) (n:Nat) (a:yB) (out_:yE) (i:Int) (k:Int):=zN (zrw zo) default n (a,out_,i,k,()) ()
def zHw (r:zAb):LTree ty:=.done (.exit 2) [.sl 42 r.1,.sl 25 r.2.1,.lit (.int .i64 r.2.2)] []
def zIK:LL ty zoX:=za (lSl 42) (za (lSl 25) (za zm (za zm zr)))
def ziX (zo:yB->Bool×yE) (a:yB) (out_:yE) (i:Int):Wy zoL Unit (yE):=.i (decide (i<Int.ofNat a.length)) (.bn (zwW zo ((a.length+out_.length+i.toNat +Int.toNat 0+1)+zdi a) a out_ i 0) λr44=>.h ((r44.1),(r44.2.1),(IntKind.i64.wrap (r44.2.2+1)),()) ()) (.k out_)
def zrc (zo:yB->Bool×yE) (x:zoL) (y:Unit):=ziX zo x.1 x.2.1 x.2.2.1
def zxd (zo:yB->Bool×yE) (n:Nat) (a:yB) (out_:yE) (i:Int):=zN (zrc zo) default n (a,out_,i,()) ()
def zJT:LL ty zoL:=za (lSl 42) (za (lSl 25) (za zm zr))
def zGm (x:zeR) (y:At×Unit):Nat:=(((x.1.length+x.2.1.length+Int.toNat x.2.2.1+Int.toNat x.2.2.2.1+Int.toNat x.2.2.2.2.2.1+1)+y.1.Ag.length+y.1.Items.length)+zdi x.1)
def zGM (x:zoX) (y:Unit):Nat:=((x.1.length+x.2.1.length+Int.toNat x.2.2.1+Int.toNat x.2.2.2.1+1)+zdi x.1)
def zHE (x:zoL) (y:Unit):Nat:=((x.1.length+x.2.1.length+Int.toNat x.2.2.1+1)+zdi x.1)
def zi1 (zo:yB->Bool×yE):=zcC base 74 [(45,(zlF zo)),(100,zuw),(101,zE9)] [] [(3,[(0,.keep),(3,.sl 25),(4,.keep)]),(6,[(0,.keep),(3,.sl 25),(4,.keep),(5,.keep)]),(12,(kpL [0,3,4,5,6,7])),(16,(kpL [0,3,4,5,6,8]))] [(3,1,(kpL [3])),(6,3,(kpL [0,3,4])),(12,5,(kpL [0,3,4,5,6])),(16,7,(kpL [0,3,4,5]))] [(12,spW zHZ zP5 (zqv zo) default zFD zGm),(16,spW zHZ zP5 (zpU zo) default zFo zGm),(6,spW zIK zQf (zrw zo) default zHw zGM),(3,spW zJT zQf (zrc zo) default zR9 zHE)] []
theorem zFC (zo:yB->Bool×yE):zR (zi1 zo) (lp (body f45) 2):=zD (id:=12) (hl:=rfl)
theorem zGc (zo:yB->Bool×yE):zR (zi1 zo) (lp (body f45) 3):=zD (id:=16) (hl:=rfl)
theorem zHm (zo:yB->Bool×yE):zR (zi1 zo) (lp (body f45) 1):=zD (id:=6) (hl:=rfl)
theorem zHx (zo:yB->Bool×yE):zR (zi1 zo) (lp (body f45) 0):=zD (id:=3) (hl:=rfl)
def zxF (zo:yB->Bool×yE) (a:yB):Wy0 (yE):=.bn (zxd zo ((a.length+0+Int.toNat 0+1)+zdi a) a [] 0) λr46=>.k r46
def zlJ (zo:yB->Bool×yE) (a:yB):=(zxF zo a).fin default
theorem zEm (zo:yB->Bool×yE) (zLp:SdP 45 (zlF zo)):SdP 45 (zlF (zlJ zo)):=
 sT (cx':=(zi1 zo)) (zn ⟨zLp,zzg,zPl,trivial⟩) call45 func45 (lOK (aC (zHx zo) (aC (zHm zo) (aC (zFC zo) (aC (zGc zo) aN)))))
def zG9:Nat->(yB->Bool×yE)
 | 0=>λ_=>(false,default)
 | n+1=>zlJ (zG9 n)
def zlr (n:Nat):yB->Bool×yE:=zG9 n
theorem zI8 (n:Nat):zlr (n+1)=zlJ (zlr n):=rfl
theorem zDO:∀ n,SdP 45 (zlF (zlr n))
 | 0=>zbd call45 (λ_=>rfl)
 | n+1=>by
  have ih:=zDO n;exact zEm _ (ih)
def zwx:yB->Bool×yE:=zlr 1000
def zw4:Ab.Spec ty:=zlF zwx
theorem zIb:SdP 45 zw4:=(zDO 1000)
abbrev zoK:=Int×Unit×yB×Int×Int×yC×Int×Int×yA×Int×Int×Unit
abbrev zz3:=Int×yB×Int×Int×yC×Int×Int×Fc
abbrev zpb:=Int×yB×Int×Int×yC×Int×Int×yD×Int×Int×Unit
abbrev zza:=Int×yB×Int×Int×yC×Int×Int
abbrev zoI:=Int×yB×Int×Int×yC×Int×Int×Unit
abbrev zzi:=Int×yB×Int×Int
abbrev zo7:=Int×yB×Int×Int×Unit
def zhZ (zp:yB->Bool×Int) (n_:Int) (t12:yB) (t13:Int) (t14:Int) (t25:yC) (t26:Int) (t27:Int) (t33:yA) (t34:Int) (t35:Int) (f:Fc):Wy zoK (Fc×Unit) zz3:=.i (decide (t35<t34)) (.i (decide (0<=t35)&&decide (t35<Int.ofNat t33.length)) (.bn (zp (t33.getD t35.toNat default)) λr0=>.h ((IntKind.i64.wrap (n_+r0)),(),t12,t13,t14,t25,t26,t27,t33,t34,(IntKind.i64.wrap (t35+1)),()) (f,())) .d) (.k (n_,t12,t13,t14,t25,t26,t27,f))
def zpV (zp:yB->Bool×Int) (x:zoK) (y:Fc×Unit):=zhZ zp x.1 x.2.2.1 x.2.2.2.1 x.2.2.2.2.1 x.2.2.2.2.2.1 x.2.2.2.2.2.2.1 x.2.2.2.2.2.2.2.1 x.2.2.2.2.2.2.2.2.1 x.2.2.2.2.2.2.2.2.2.1 x.2.2.2.2.2.2.2.2.2.2.1 y.1
def zvH (zp:yB->Bool×Int) (n:Nat) (n_:Int) (t12:yB) (t13:Int) (t14:Int) (t25:yC) (t26:Int) (t27:Int) (t33:yA) (t34:Int) (t35:Int) (f:Fc):=zN (zpV zp) default n (n_,(),t12,t13,t14,t25,t26,t27,t33,t34,t35,()) (f,())
def zFA (r:zz3):LTree ty:=.done (.exit 4) [.lit (.int .i64 r.1),.ptr 248 0,.sl 42 r.2.1,.lit (.int .i64 r.2.2.1),.lit (.int .i64 r.2.2.2.1),.sl 50 r.2.2.2.2.1,.lit (.int .i64 r.2.2.2.2.2.1),.lit (.int .i64 r.2.2.2.2.2.2.1)] [.box (base.enc 50 r.2.2.2.2.2.2.2) false]
def zHI:LL ty zoK:=za zm (za (zeB 248 0) (za (lSl 42) (za zm (za zm (za (lSl 50) (za zm (za zm (za (lSl 23) (za zm (za zm zr))))))))))
def zHW:BL ty (Fc×Unit):=zhD (zhu (λx=>(⟨⟨x.1,⟨x.2.1,x.2.2.1⟩,x.2.2.2.1,x.2.2.2.2.1,x.2.2.2.2.2.1,x.2.2.2.2.2.2.1,⟨x.2.2.2.2.2.2.2.1,x.2.2.2.2.2.2.2.2.1,x.2.2.2.2.2.2.2.2.2.1⟩⟩,x.2.2.2.2.2.2.2.2.2.2.1⟩:Fc)) (λx=>(x.At.Kind,x.At.Row.Table,x.At.Row.Seq,x.At.Ag,x.At.Func,x.At.Items,x.At.Op,x.At.Bd.Kind,x.At.Bd.Int,x.At.Bd.Text,x.Exp,())) (λ_=>rfl) (za (zA .i64) (za (zA .i64) (za (zA .i64) (za (lSl 23) (za (zA .i64) (za (lSl 52) (za (zA .i64) (za (zA .i64) (za (zA .i64) (za zmf (za (zA .i64) zr)))))))))))) false (zbv)
def zh4 (zp:yB->Bool×Int) (n_:Int) (t12:yB) (t13:Int) (t14:Int) (t25:yC) (t26:Int) (t27:Int) (t46:yD) (t47:Int) (t48:Int):Wy zpb Unit zza:=.i (decide (t48<t47)) (.i (decide (0<=t48)&&decide (t48<Int.ofNat t46.length)) (.bn (zp (t46.getD t48.toNat default).Ann) λr2=>.h ((IntKind.i64.wrap (n_+IntKind.i64.wrap (1+r2))),t12,t13,t14,t25,t26,t27,t46,t47,(IntKind.i64.wrap (t48+1)),()) ()) .d) (.k (n_,t12,t13,t14,t25,t26,t27))
def zpO (zp:yB->Bool×Int) (x:zpb) (y:Unit):=zh4 zp x.1 x.2.1 x.2.2.1 x.2.2.2.1 x.2.2.2.2.1 x.2.2.2.2.2.1 x.2.2.2.2.2.2.1 x.2.2.2.2.2.2.2.1 x.2.2.2.2.2.2.2.2.1 x.2.2.2.2.2.2.2.2.2.1
def zwb (zp:yB->Bool×Int) (n:Nat) (n_:Int) (t12:yB) (t13:Int) (t14:Int) (t25:yC) (t26:Int) (t27:Int) (t46:yD) (t47:Int) (t48:Int):=zN (zpO zp) default n (n_,t12,t13,t14,t25,t26,t27,t46,t47,t48,()) ()
def zGv (r:zza):LTree ty:=.done (.exit 6) [.lit (.int .i64 r.1),.sl 42 r.2.1,.lit (.int .i64 r.2.2.1),.lit (.int .i64 r.2.2.2.1),.sl 50 r.2.2.2.2.1,.lit (.int .i64 r.2.2.2.2.2.1),.lit (.int .i64 r.2.2.2.2.2.2)] []
def zHc:LL ty zpb:=za zm (za (lSl 42) (za zm (za zm (za (lSl 50) (za zm (za zm (za (lSl 52) (za zm (za zm zr)))))))))
def zi2 (zp:yB->Bool×Int) (n_:Int) (t12:yB) (t13:Int) (t14:Int) (t25:yC) (t26:Int) (t27:Int):Wy zoI Unit zzi:=.i (decide (t27<t26)) (.i (decide (0<=t27)&&decide (t27<Int.ofNat t25.length)) (.bn (zvH zp ((n_.toNat +t12.length+t13.toNat +t14.toNat +t25.length+t26.toNat +t27.toNat +(t25.getD t27.toNat default).At.Ag.length+(Int.ofNat (t25.getD t27.toNat default).At.Ag.length).toNat +Int.toNat 0+1)+(FO.mk (At.mk (t25.getD t27.toNat default).At.Kind (t25.getD t27.toNat default).At.Row (t25.getD t27.toNat default).At.Ag (t25.getD t27.toNat default).At.Func (t25.getD t27.toNat default).At.Items (t25.getD t27.toNat default).At.Op (t25.getD t27.toNat default).At.Bd) (t25.getD t27.toNat default).Exp).At.Ag.length+(FO.mk (At.mk (t25.getD t27.toNat default).At.Kind (t25.getD t27.toNat default).At.Row (t25.getD t27.toNat default).At.Ag (t25.getD t27.toNat default).At.Func (t25.getD t27.toNat default).At.Items (t25.getD t27.toNat default).At.Op (t25.getD t27.toNat default).At.Bd) (t25.getD t27.toNat default).Exp).At.Items.length) n_ t12 t13 t14 t25 t26 t27 (t25.getD t27.toNat default).At.Ag (Int.ofNat (t25.getD t27.toNat default).At.Ag.length) 0 (FO.mk (At.mk (t25.getD t27.toNat default).At.Kind (t25.getD t27.toNat default).At.Row (t25.getD t27.toNat default).At.Ag (t25.getD t27.toNat default).At.Func (t25.getD t27.toNat default).At.Items (t25.getD t27.toNat default).At.Op (t25.getD t27.toNat default).At.Bd) (t25.getD t27.toNat default).Exp)) λr5=>.bn (zwb zp (r5.1.toNat +r5.2.1.length+r5.2.2.1.toNat +r5.2.2.2.1.toNat +r5.2.2.2.2.1.length+r5.2.2.2.2.2.1.toNat +r5.2.2.2.2.2.2.1.toNat +r5.2.2.2.2.2.2.2.At.Items.length+(Int.ofNat r5.2.2.2.2.2.2.2.At.Items.length).toNat +Int.toNat 0+1) r5.1 r5.2.1 r5.2.2.1 r5.2.2.2.1 r5.2.2.2.2.1 r5.2.2.2.2.2.1 r5.2.2.2.2.2.2.1 r5.2.2.2.2.2.2.2.At.Items (Int.ofNat r5.2.2.2.2.2.2.2.At.Items.length) 0) λr4=>.h ((r4.1),(r4.2.1),(r4.2.2.1),(r4.2.2.2.1),(r4.2.2.2.2.1),(r4.2.2.2.2.2.1),(IntKind.i64.wrap (r4.2.2.2.2.2.2+1)),()) ()) .d) (.k (n_,t12,t13,t14))
def zq9 (zp:yB->Bool×Int) (x:zoI) (y:Unit):=zi2 zp x.1 x.2.1 x.2.2.1 x.2.2.2.1 x.2.2.2.2.1 x.2.2.2.2.2.1 x.2.2.2.2.2.2.1
def zw7 (zp:yB->Bool×Int) (n:Nat) (n_:Int) (t12:yB) (t13:Int) (t14:Int) (t25:yC) (t26:Int) (t27:Int):=zN (zq9 zp) default n (n_,t12,t13,t14,t25,t26,t27,()) ()
def zH3 (r:zzi):LTree ty:=.done (.exit 2) [.lit (.int .i64 r.1),.sl 42 r.2.1,.lit (.int .i64 r.2.2.1),.lit (.int .i64 r.2.2.2)] []
def zIw:LL ty zoI:=za zm (za (lSl 42) (za zm (za zm (za (lSl 50) (za zm (za zm zr))))))
def ziP (zp:yB->Bool×Int) (n_:Int) (t12:yB) (t13:Int) (t14:Int):Wy zo7 Unit (Int):=.i (decide (t14<t13)) (.i (decide (0<=t14)&&decide (t14<Int.ofNat t12.length)) (.bn (zw7 zp ((IntKind.i64.wrap (n_+IntKind.i64.wrap (1+Int.ofNat (t12.getD t14.toNat default).Fs.length))).toNat +t12.length+t13.toNat +t14.toNat +(t12.getD t14.toNat default).Fs.length+(Int.ofNat (t12.getD t14.toNat default).Fs.length).toNat +Int.toNat 0+1) (IntKind.i64.wrap (n_+IntKind.i64.wrap (1+Int.ofNat (t12.getD t14.toNat default).Fs.length))) t12 t13 t14 (t12.getD t14.toNat default).Fs (Int.ofNat (t12.getD t14.toNat default).Fs.length) 0) λr8=>.h ((r8.1),(r8.2.1),(r8.2.2.1),(IntKind.i64.wrap (r8.2.2.2+1)),()) ()) .d) (.k n_)
def zri (zp:yB->Bool×Int) (x:zo7) (y:Unit):=ziP zp x.1 x.2.1 x.2.2.1 x.2.2.2.1
def zws (zp:yB->Bool×Int) (n:Nat) (n_:Int) (t12:yB) (t13:Int) (t14:Int):=zN (zri zp) default n (n_,t12,t13,t14,()) ()
def zIm:LL ty zo7:=za zm (za (lSl 42) (za zm (za zm zr)))
def zFY (x:zoK) (y:Fc×Unit):Nat:=((Int.toNat x.1+x.2.2.1.length+Int.toNat x.2.2.2.1+Int.toNat x.2.2.2.2.1+x.2.2.2.2.2.1.length+Int.toNat x.2.2.2.2.2.2.1+Int.toNat x.2.2.2.2.2.2.2.1+x.2.2.2.2.2.2.2.2.1.length+Int.toNat x.2.2.2.2.2.2.2.2.2.1+Int.toNat x.2.2.2.2.2.2.2.2.2.2.1+1)+y.1.At.Ag.length+y.1.At.Items.length)
def zF1 (x:zpb) (y:Unit):Nat:=(Int.toNat x.1+x.2.1.length+Int.toNat x.2.2.1+Int.toNat x.2.2.2.1+x.2.2.2.2.1.length+Int.toNat x.2.2.2.2.2.1+Int.toNat x.2.2.2.2.2.2.1+x.2.2.2.2.2.2.2.1.length+Int.toNat x.2.2.2.2.2.2.2.2.1+Int.toNat x.2.2.2.2.2.2.2.2.2.1+1)
def zGW (x:zoI) (y:Unit):Nat:=(Int.toNat x.1+x.2.1.length+Int.toNat x.2.2.1+Int.toNat x.2.2.2.1+x.2.2.2.2.1.length+Int.toNat x.2.2.2.2.2.1+Int.toNat x.2.2.2.2.2.2.1+1)
def zHD (x:zo7) (y:Unit):Nat:=(Int.toNat x.1+x.2.1.length+Int.toNat x.2.2.1+Int.toNat x.2.2.2.1+1)
def zi6 (zp:yB->Bool×Int):=zcC base 62 [(47,(zs9 zp))] [] [(3,(kpL [3,12,13,14])),(7,(kpL [3,12,13,14,25,26,27])),(10,(kpL [3,7,12,13,14,25,26,27,33,34,35])),(15,(kpL [3,12,13,14,25,26,27,46,47,48]))] [(3,1,(kpL [3])),(7,3,(kpL [3,12,13,14])),(10,5,(kpL [3,7,12,13,14,25,26,27])),(15,7,(kpL [3,12,13,14,25,26,27]))] [(10,spW zHI zHW (zpV zp) default zFA zFY),(15,spW zHc zQf (zpO zp) default zGv zF1),(7,spW zIw zQf (zq9 zp) default zH3 zGW),(3,spW zIm zQf (zri zp) default zPk zHD)] []
theorem zFR (zp:yB->Bool×Int):zR (zi6 zp) (lp (body f47) 2):=zD (id:=10) (hl:=rfl)
theorem zFB (zp:yB->Bool×Int):zR (zi6 zp) (lp (body f47) 3):=zD (id:=15) (hl:=rfl)
theorem zHq (zp:yB->Bool×Int):zR (zi6 zp) (lp (body f47) 1):=zD (id:=7) (hl:=rfl)
theorem zGT (zp:yB->Bool×Int):zR (zi6 zp) (lp (body f47) 0):=zD (id:=3) (hl:=rfl)
def zxQ (zp:yB->Bool×Int) (a:yB):Wy0 (Int):=.bn (zws zp (Int.toNat 0+a.length+(Int.ofNat a.length).toNat +Int.toNat 0+1) 0 a (Int.ofNat a.length) 0) λr10=>.k r10
def zpG (zp:yB->Bool×Int) (a:yB):=(zxQ zp a).fin default
theorem zD6 (zp:yB->Bool×Int) (zLt:SdP 47 (zs9 zp)):SdP 47 (zs9 (zpG zp)):=
 sT (cx':=(zi6 zp)) (zn ⟨zLt,trivial⟩) call47 func47 (lOK (aC (zGT zp) (aC (zHq zp) (aC (zFR zp) (aC (zFB zp) aN)))))
def zUf:Nat->(yB->Bool×Int)
 | 0=>λ_=>(false,default)
 | n+1=>zpG (zUf n)
def zi7 (n:Nat):yB->Bool×Int:=zUf n
theorem zIj (n:Nat):zi7 (n+1)=zpG (zi7 n):=rfl
theorem zRm:∀ n,SdP 47 (zs9 (zi7 n))
 | 0=>zbd call47 (λ_=>rfl)
 | n+1=>by
  have ih:=zRm n;exact zD6 _ (ih)
def zoF:yB->Bool×Int:=zi7 1000
def zro:Ab.Spec ty:=zs9 zoF
theorem zv8:SdP 47 zro:=(zRm 1000)
def zD8:AL base (Term×Term×Unit):=zf (zg (zdh 42)) (zf (zg (zdh 42)) zF)
def zeX (F:Term->Term->Bool×Int):Ab.Spec ty:=zi zD8 λx=>((F x.1 x.2.1).1,zRK (F x.1 x.2.1).2)
def zAc:AL base (Fc×Fc×Unit):=zf (zg (zdh 50)) (zf (zg (zdh 50)) zF)
def zdC (F:Fc->Fc->Bool×Int):Ab.Spec ty:=zi zAc λx=>((F x.1 x.2.1).1,zRK (F x.1 x.2.1).2)
def zCf:AL base (Wd×Wd×Unit):=zf (zg (zdh 52)) (zf (zg (zdh 52)) zF)
def zdo (F:Wd->Wd->Bool×Int):Ab.Spec ty:=zi zCf λx=>((F x.1 x.2.1).1,zRK (F x.1 x.2.1).2)
def zhj:AL base (yB×yB×Unit×Unit):=zf (zg (vSl 42)) (zf (zg (vSl 42)) (zf (zg (vFn 87 zcQ)) zF))
def zbC (F:yB->yB->Bool×Int):Ab.Spec ty:=zi zhj λx=>((F x.1 x.2.1).1,zRK (F x.1 x.2.1).2)
def zhE:AL base (yC×yC×Unit×Unit):=zf (zg (vSl 50)) (zf (zg (vSl 50)) (zf (zg (vFn 124 zcQ)) zF))
def zbJ (F:yC->yC->Bool×Int):Ab.Spec ty:=zi zhE λx=>((F x.1 x.2.1).1,zRK (F x.1 x.2.1).2)
def zeF:AL base (yA×yA×Unit×Unit):=zf (zg (vSl 23)) (zf (zg (vSl 23)) (zf (zg (vFn 38 zcQ)) zF))
def zbf (F:yA->yA->Bool×Int):Ab.Spec ty:=zi zeF λx=>((F x.1 x.2.1).1,zRK (F x.1 x.2.1).2)
def zfQ:AL base (yD×yD×Unit×Unit):=zf (zg (vSl 52)) (zf (zg (vSl 52)) (zf (zg (vFn 85 zcQ)) zF))
def zbs (F:yD->yD->Bool×Int):Ab.Spec ty:=zi zfQ λx=>((F x.1 x.2.1).1,zRK (F x.1 x.2.1).2)
def zEJ (zH:yB->yB->Bool×Int) (zI:Term->Term->Bool×Int):=zbR base 8 [(86,(zbC zH)),(87,(zeX zI))]
def zu8 (zH:yB->yB->Bool×Int) (zI:Term->Term->Bool×Int) (a:yB) (b:yB):Wy0 (Int):=.bn (zH a b) λr0=>.k r0
def zlS (zH:yB->yB->Bool×Int) (zI:Term->Term->Bool×Int) (a:yB) (b:yB):=(zu8 zH zI a b).fin default
theorem zA0 (zH:yB->yB->Bool×Int) (zI:Term->Term->Bool×Int) (zgH:SdP 86 (zbC zH)) (zlR:SdP 87 (zeX zI)):SdP 38 (ziR (zlS zH zI)):=
 sT (cx':=(zEJ zH zI)) (zn ⟨zgH,zlR,trivial⟩) call38 func38 (lOK aN)
def zMy:=zbR base 6 []
def zBk (x_:Int):Wy0 (Bool):=.k (x_ != x_)
def zkL (x_:Int):=(zBk x_).fin default
def zOn:AL base (Int×Unit):=zf (zg zlk) zF
def zwP:=zi zOn λx=>((zkL x.1).1,zRi (zkL x.1).2)
theorem zHF:SdP 136 zwP:=
 sT (cx':=zMy) (zn trivial) call136 func136 (lOK aN)
def zJd:=zbR base 20 [(136,zwP)]
def zxK (x_:Int) (y_:Int):Wy0 (Int):=.i ((zkL x_).2) (.i ((zkL y_).2) (.k 0) (.k (-1:Int))) (.i ((zkL y_).2) (.k 1) (.i (decide (x_<y_)) (.k (-1:Int)) (.i (decide (x_>y_)) (.k 1) (.k 0))))
def zhg (x_:Int) (y_:Int):=(zxK x_ y_).fin default
def zjW:=zi zSB λx=>((zhg x.1 x.2.1).1,zRK (zhg x.1 x.2.1).2)
theorem znR:SdP 79 zjW:=
 sT (cx':=zJd) (zn ⟨zHF,trivial⟩) call79 func79 (lOK aN)
abbrev zwE:=Int×List Int×Int×Int×Unit
def zBh (zero:Int) (t6:List Int) (t7:Int) (t8:Int):Wy zwE Unit (Int⊕Int):=.i (decide (t8<t7)) (.i (decide (0<=t8)&&decide (t8<Int.ofNat t6.length)) (.i (t6.getD t8.toNat default != zero) (.k (.inl (t6.getD t8.toNat default))) (.h (zero,t6,t7,(IntKind.i64.wrap (t8+1)),()) ())) .d) (.k (.inr zero))
def zKg (x:zwE) (y:Unit):=zBh x.1 x.2.1 x.2.2.1 x.2.2.2.1
def zAZ (n:Nat) (zero:Int) (t6:List Int) (t7:Int) (t8:Int):=zN (zKg) (.inl default) n (zero,t6,t7,t8,()) ()
def zSe (r:Int⊕Int):LTree ty:=.ite (isL r) (.done .ret [.lit (.int .i64 (getL r))] []) (.done (.exit 0) [.lit (.int .i64 (getR r))] [])
def zTF:LL ty zwE:=za zm (za (lSl 3) (za zm (za zm zr)))
def zSs (x:zwE) (y:Unit):Nat:=(Int.toNat x.1+x.2.1.length+Int.toNat x.2.2.1+Int.toNat x.2.2.2.1+1)
def zJ7:=zcC base 18 [] [] [(3,(kpL [3,6,7,8]))] [(3,1,(kpL [3])),(3,0,(kpL [2]))] [(3,spW zTF zQf (zKg) (.inl default) zSe zSs)] []
theorem zRY:zR zJ7 (lp (body f88) 0):=zD (id:=3) (hl:=rfl)
def zNw (vals:List Int):Wy0 (Int):=.bn (zAZ (Int.toNat 0+vals.length+(Int.ofNat vals.length).toNat +Int.toNat 0+1) 0 vals (Int.ofNat vals.length) 0) λr0=>.i (isL r0) (.k (getL r0)) (.k (getR r0))
def zjX (vals:List Int):=(zNw vals).fin default
def zVm:AL base (List Int×Unit):=zf (zg (vSl 3)) zF
def ziH:=zi zVm λx=>((zjX x.1).1,zRK (zjX x.1).2)
theorem zjO:SdP 88 ziH:=
 sT (cx':=zJ7) (zn trivial) call88 func88 (lOK (aC zRY aN))
def zAM (zcs:Term->Term->Bool×Int):=zbR base 15 [(71,(zeX zcs)),(79,zjW),(88,ziH)]
def zsW (zcs:Term->Term->Bool×Int) (x_:Term) (y_:Term):Wy0 (Int):=.bn (zcs x_ y_) λr2=>.bn (zhg x_.Cf y_.Cf) λr1=>.bn (zjX [r2,r1]) λr0=>.k r0
def zjq (zcs:Term->Term->Bool×Int) (x_:Term) (y_:Term):=(zsW zcs x_ y_).fin default
theorem zxw (zcs:Term->Term->Bool×Int) (zzf:SdP 71 (zeX zcs)):SdP 87 (zeX (zjq zcs)):=
 sT (cx':=(zAM zcs)) (zn ⟨zzf,znR,zjO,trivial⟩) call87 func87 (lOK aN)
def zPi:=zbR base 6 []
def zE2 (x_:Int):Wy0 (Bool):=.k (x_ != x_)
def zoq (x_:Int):=(zE2 x_).fin default
def zy2:=zi zOn λx=>((zoq x.1).1,zRi (zoq x.1).2)
theorem zKD:SdP 161 zy2:=
 sT (cx':=zPi) (zn trivial) call161 func161 (lOK aN)
def zNu:=zbR base 20 [(161,zy2)]
def zBj (x_:Int) (y_:Int):Wy0 (Int):=.i ((zoq x_).2) (.i ((zoq y_).2) (.k 0) (.k (-1:Int))) (.i ((zoq y_).2) (.k 1) (.i (decide (x_<y_)) (.k (-1:Int)) (.i (decide (x_>y_)) (.k 1) (.k 0))))
def zc5 (x_:Int) (y_:Int):=(zBj x_ y_).fin default
def ziZ:=zi zSB λx=>((zc5 x.1 x.2.1).1,zRK (zc5 x.1 x.2.1).2)
theorem zkO:SdP 125 ziZ:=
 sT (cx':=zNu) (zn ⟨zKD,trivial⟩) call125 func125 (lOK aN)
end Go.Proofs.YtnolcogncjijpaaGreatDoor
/-
 DERIVED:THE SHELF's CONTRACTS AT THIS DUMP,IN PLAIN WORDS (tools/lay-plain.mjs out of 'TryzShelf.lean',which tools/lay-shelf.mjs wrote):THE SAME DECLARATIONS UNDER THE SAME NAMES:'import','namespace','open','def','theorem' AND NOTHING ELSE:no command of the shelf's:FOR A HAND-IN. Each laying:the table of numbers ('.._ren') and one theorem,a field a fact of the dump's own or the kernel's comparison; each contract:ONE APPLICATION.
-/
namespace Go.Proofs
open Go.Shelf
def Tryz.sortRow_ren:Go.Shelf.Ren:=⟨λ| 6=>143 | 15=>156 | 14=>167 | 28=>185 | 29=>186 | 20=>189 | 21=>190 | 22=>191 | 23=>192 | 24=>193 | 25=>194 | 26=>195 | 27=>196 | 46=>211 | 47=>205 | 48=>206 | 49=>212 | 50=>213 | 57=>222 | n=>n,λ| 22=>65 | 24=>25 | 25=>133 | 3=>3 | 39=>143 | 0=>0 | 53=>176 | 55=>178 | 4=>4 | 46=>170 | 45=>169 | 50=>108 | 5=>5 | 9=>9 | 66=>190 | 70=>194 | 76=>205 | 77=>206 | n=>n,λ| n=>n⟩
theorem Tryz.sortRow:Go.Proofs.SlLaysF0.n6 Tryz.prog Tryz.sortRow_ren:={
 mixed:=by kernel_rfl
 f6:=⟨f143.name,by decide,func143.trans (congrArg some (by kernel_rfl))⟩
 f14:=⟨f167.name,by decide,func167.trans (congrArg some (by kernel_rfl))⟩
 f15:=func156.trans (congrArg some (by kernel_rfl))
 f20:=⟨f189.name,by decide,func189.trans (congrArg some (by kernel_rfl))⟩
 f21:=⟨f190.name,by decide,func190.trans (congrArg some (by kernel_rfl))⟩
 f22:=⟨f191.name,by decide,func191.trans (congrArg some (by kernel_rfl))⟩
 f23:=⟨f192.name,by decide,func192.trans (congrArg some (by kernel_rfl))⟩
 f24:=⟨f193.name,by decide,func193.trans (congrArg some (by kernel_rfl))⟩
 f25:=⟨f194.name,by decide,func194.trans (congrArg some (by kernel_rfl))⟩
 f26:=⟨f195.name,by decide,func195.trans (congrArg some (by kernel_rfl))⟩
 f27:=⟨f196.name,by decide,func196.trans (congrArg some (by kernel_rfl))⟩
 f28:=func185.trans (congrArg some (by kernel_rfl))
 f29:=func186.trans (congrArg some (by kernel_rfl))
 f46:=⟨f211.name,by decide,func211.trans (congrArg some (by kernel_rfl))⟩
 f47:=func205.trans (congrArg some (by kernel_rfl))
 f48:=func206.trans (congrArg some (by kernel_rfl))
 f49:=⟨f212.name,by decide,func212.trans (congrArg some (by kernel_rfl))⟩
 f50:=⟨f213.name,by decide,func213.trans (congrArg some (by kernel_rfl))⟩
 f57:=⟨f222.name,by decide,func222.trans (congrArg some (by kernel_rfl))⟩
 t0:=underlying0
 a0:=Tryz.isAgg0
 z0:=Tryz.sizeOf0
 v0:=Tryz.zeroValue0
 t3:=underlying3
 a3:=Tryz.isAgg3
 z3:=Tryz.sizeOf3
 v3:=Tryz.zeroValue3
 t4:=underlying4
 a4:=Tryz.isAgg4
 z4:=Tryz.sizeOf4
 v4:=Tryz.zeroValue4
 t5:=underlying5
 a5:=Tryz.isAgg5
 z5:=Tryz.sizeOf5
 v5:=Tryz.zeroValue5
 t9:=underlying9
 a9:=Tryz.isAgg9
 z9:=Tryz.sizeOf9
 v9:=Tryz.zeroValue9
 t22:=underlying65
 a22:=Tryz.isAgg65
 z22:=Tryz.sizeOf65
 v22:=Tryz.zeroValue65
 t25:=underlying133
 a25:=Tryz.isAgg133
 z25:=Tryz.sizeOf133
 v25:=Tryz.zeroValue133
 t39:=underlying143
 a39:=Tryz.isAgg143
 z39:=Tryz.sizeOf143
 v39:=Tryz.zeroValue143
 t45:=underlying169
 a45:=Tryz.isAgg169
 z45:=Tryz.sizeOf169
 v45:=Tryz.zeroValue169
 t46:=underlying170
 a46:=Tryz.isAgg170
 z46:=Tryz.sizeOf170
 v46:=Tryz.zeroValue170
 t50:=underlying108
 a50:=Tryz.isAgg108
 z50:=Tryz.sizeOf108
 v50:=Tryz.zeroValue108
 t53:=underlying176
 a53:=Tryz.isAgg176
 z53:=Tryz.sizeOf176
 v53:=Tryz.zeroValue176
 t55:=underlying178
 a55:=Tryz.isAgg178
 z55:=Tryz.sizeOf178
 v55:=Tryz.zeroValue178
 t66:=underlying190
 a66:=Tryz.isAgg190
 z66:=Tryz.sizeOf190
 v66:=Tryz.zeroValue190
 t70:=underlying194
 a70:=Tryz.isAgg194
 z70:=Tryz.sizeOf194
 v70:=Tryz.zeroValue194
 t76:=underlying205
 a76:=Tryz.isAgg205
 z76:=Tryz.sizeOf205
 v76:=Tryz.zeroValue205
 t77:=underlying206
 a77:=Tryz.isAgg206
 z77:=Tryz.sizeOf206
 v77:=Tryz.zeroValue206 }
def Tryz.pdqTerm_ren:Go.Shelf.Ren:=⟨λ| 14=>155 | 20=>177 | 21=>178 | 22=>179 | 23=>180 | 24=>181 | 25=>182 | 26=>183 | 27=>184 | 46=>204 | 47=>205 | 48=>206 | 49=>207 | 50=>208 | 15=>156 | 57=>221 | 28=>185 | 29=>186 | n=>n,λ| 24=>42 | 22=>22 | 3=>3 | 25=>80 | 4=>4 | 0=>0 | 46=>170 | 45=>169 | 50=>108 | 66=>190 | 39=>143 | 55=>178 | 70=>194 | 76=>205 | 77=>206 | 53=>176 | 5=>5 | 9=>9 | n=>n,λ| n=>n⟩
theorem Tryz.pdqTerm:Go.Proofs.SlLaysF0.n14 Tryz.prog Tryz.pdqTerm_ren:={
 mixed:=by kernel_rfl
 f14:=⟨f155.name,by decide,func155.trans (congrArg some (by kernel_rfl))⟩
 f15:=func156.trans (congrArg some (by kernel_rfl))
 f20:=⟨f177.name,by decide,func177.trans (congrArg some (by kernel_rfl))⟩
 f21:=⟨f178.name,by decide,func178.trans (congrArg some (by kernel_rfl))⟩
 f22:=⟨f179.name,by decide,func179.trans (congrArg some (by kernel_rfl))⟩
 f23:=⟨f180.name,by decide,func180.trans (congrArg some (by kernel_rfl))⟩
 f24:=⟨f181.name,by decide,func181.trans (congrArg some (by kernel_rfl))⟩
 f25:=⟨f182.name,by decide,func182.trans (congrArg some (by kernel_rfl))⟩
 f26:=⟨f183.name,by decide,func183.trans (congrArg some (by kernel_rfl))⟩
 f27:=⟨f184.name,by decide,func184.trans (congrArg some (by kernel_rfl))⟩
 f28:=func185.trans (congrArg some (by kernel_rfl))
 f29:=func186.trans (congrArg some (by kernel_rfl))
 f46:=⟨f204.name,by decide,func204.trans (congrArg some (by kernel_rfl))⟩
 f47:=func205.trans (congrArg some (by kernel_rfl))
 f48:=func206.trans (congrArg some (by kernel_rfl))
 f49:=⟨f207.name,by decide,func207.trans (congrArg some (by kernel_rfl))⟩
 f50:=⟨f208.name,by decide,func208.trans (congrArg some (by kernel_rfl))⟩
 f57:=⟨f221.name,by decide,func221.trans (congrArg some (by kernel_rfl))⟩
 t0:=underlying0
 a0:=Tryz.isAgg0
 z0:=Tryz.sizeOf0
 v0:=Tryz.zeroValue0
 t3:=underlying3
 a3:=Tryz.isAgg3
 z3:=Tryz.sizeOf3
 v3:=Tryz.zeroValue3
 t4:=underlying4
 a4:=Tryz.isAgg4
 z4:=Tryz.sizeOf4
 v4:=Tryz.zeroValue4
 t5:=underlying5
 a5:=Tryz.isAgg5
 z5:=Tryz.sizeOf5
 v5:=Tryz.zeroValue5
 t9:=underlying9
 a9:=Tryz.isAgg9
 z9:=Tryz.sizeOf9
 v9:=Tryz.zeroValue9
 t22:=underlying22
 a22:=Tryz.isAgg22
 z22:=Tryz.sizeOf22
 v22:=Tryz.zeroValue22
 t25:=underlying80
 a25:=Tryz.isAgg80
 z25:=Tryz.sizeOf80
 v25:=Tryz.zeroValue80
 t39:=underlying143
 a39:=Tryz.isAgg143
 z39:=Tryz.sizeOf143
 v39:=Tryz.zeroValue143
 t45:=underlying169
 a45:=Tryz.isAgg169
 z45:=Tryz.sizeOf169
 v45:=Tryz.zeroValue169
 t46:=underlying170
 a46:=Tryz.isAgg170
 z46:=Tryz.sizeOf170
 v46:=Tryz.zeroValue170
 t50:=underlying108
 a50:=Tryz.isAgg108
 z50:=Tryz.sizeOf108
 v50:=Tryz.zeroValue108
 t53:=underlying176
 a53:=Tryz.isAgg176
 z53:=Tryz.sizeOf176
 v53:=Tryz.zeroValue176
 t55:=underlying178
 a55:=Tryz.isAgg178
 z55:=Tryz.sizeOf178
 v55:=Tryz.zeroValue178
 t66:=underlying190
 a66:=Tryz.isAgg190
 z66:=Tryz.sizeOf190
 v66:=Tryz.zeroValue190
 t70:=underlying194
 a70:=Tryz.isAgg194
 z70:=Tryz.sizeOf194
 v70:=Tryz.zeroValue194
 t76:=underlying205
 a76:=Tryz.isAgg205
 z76:=Tryz.sizeOf205
 v76:=Tryz.zeroValue205
 t77:=underlying206
 a77:=Tryz.isAgg206
 z77:=Tryz.sizeOf206
 v77:=Tryz.zeroValue206 }
def Tryz.insW_ren:Go.Shelf.Ren:=⟨λ| 20=>164 | n=>n,λ| 24=>52 | 22=>44 | 3=>3 | 25=>89 | 4=>4 | 0=>0 | n=>n,λ| n=>n⟩
theorem Tryz.insW:Go.Proofs.SlLaysF0.n20 Tryz.prog Tryz.insW_ren:={
 mixed:=by kernel_rfl
 f20:=⟨f164.name,by decide,func164.trans (congrArg some (by kernel_rfl))⟩
 t0:=underlying0
 a0:=Tryz.isAgg0
 z0:=Tryz.sizeOf0
 v0:=Tryz.zeroValue0
 t3:=underlying3
 a3:=Tryz.isAgg3
 z3:=Tryz.sizeOf3
 v3:=Tryz.zeroValue3
 t4:=underlying4
 a4:=Tryz.isAgg4
 z4:=Tryz.sizeOf4
 v4:=Tryz.zeroValue4
 t22:=underlying44
 a22:=Tryz.isAgg44
 z22:=Tryz.sizeOf44
 v22:=Tryz.zeroValue44
 t25:=underlying89
 a25:=Tryz.isAgg89
 z25:=Tryz.sizeOf89
 v25:=Tryz.zeroValue89 }
def Tryz.lays106_ren:Go.Shelf.Ren:=⟨λ| 106=>162 | 213=>187 | 265=>209 | n=>n,λ| 9=>9 | 3=>3 | n=>n,λ| n=>n⟩
theorem Tryz.lays106:Go.Proofs.Lays.n106 Tryz.prog Tryz.lays106_ren:={
 mixed:=by kernel_rfl
 f106:=func162.trans (congrArg some (by kernel_rfl))
 f213:=func187.trans (congrArg some (by kernel_rfl))
 f265:=func209.trans (congrArg some (by kernel_rfl))
 t3:=underlying3
 a3:=Tryz.isAgg3
 z3:=Tryz.sizeOf3
 v3:=Tryz.zeroValue3
 t9:=underlying9
 a9:=Tryz.isAgg9
 z9:=Tryz.sizeOf9
 v9:=Tryz.zeroValue9 }
def Tryz.laysM173_ren:Go.Shelf.Ren:=⟨λ| 173=>151 | 246=>168 | 283=>197 | 284=>198 | 285=>199 | 286=>200 | 129=>186 | 317=>214 | 318=>215 | 319=>216 | 320=>217 | 337=>223 | 338=>224 | n=>n,λ| 2=>2 | 3=>3 | 9=>9 | 4=>4 | 171=>184 | 0=>0 | 53=>178 | 37=>156 | 5=>5 | 173=>186 | 212=>199 | 51=>176 | 20=>20 | 213=>200 | 46=>143 | 232=>211 | 233=>212 | n=>n,λ| 17=>1 | 18=>2 | 19=>3 | n=>n⟩
theorem Tryz.laysM173:Go.Proofs.LaysM.n173 Tryz.prog Tryz.laysM173_ren:={
 mixed:=by kernel_rfl
 f129:=func186.trans (congrArg some (by kernel_rfl))
 f173:=func151.trans (congrArg some (by kernel_rfl))
 f246:=func168.trans (congrArg some (by kernel_rfl))
 f283:=func197.trans (congrArg some (by kernel_rfl))
 f284:=func198.trans (congrArg some (by kernel_rfl))
 f285:=func199.trans (congrArg some (by kernel_rfl))
 f286:=func200.trans (congrArg some (by kernel_rfl))
 f317:=func214.trans (congrArg some (by kernel_rfl))
 f318:=func215.trans (congrArg some (by kernel_rfl))
 f319:=func216.trans (congrArg some (by kernel_rfl))
 f320:=func217.trans (congrArg some (by kernel_rfl))
 f337:=func223.trans (congrArg some (by kernel_rfl))
 f338:=func224.trans (congrArg some (by kernel_rfl))
 t0:=underlying0
 a0:=Tryz.isAgg0
 z0:=Tryz.sizeOf0
 v0:=Tryz.zeroValue0
 t2:=underlying2
 a2:=Tryz.isAgg2
 z2:=Tryz.sizeOf2
 v2:=Tryz.zeroValue2
 t3:=underlying3
 a3:=Tryz.isAgg3
 z3:=Tryz.sizeOf3
 v3:=Tryz.zeroValue3
 t4:=underlying4
 a4:=Tryz.isAgg4
 z4:=Tryz.sizeOf4
 v4:=Tryz.zeroValue4
 t5:=underlying5
 a5:=Tryz.isAgg5
 z5:=Tryz.sizeOf5
 v5:=Tryz.zeroValue5
 t9:=underlying9
 a9:=Tryz.isAgg9
 z9:=Tryz.sizeOf9
 v9:=Tryz.zeroValue9
 t20:=underlying20
 a20:=Tryz.isAgg20
 z20:=Tryz.sizeOf20
 v20:=Tryz.zeroValue20
 t37:=underlying156
 a37:=Tryz.isAgg156
 z37:=Tryz.sizeOf156
 v37:=Tryz.zeroValue156
 t46:=underlying143
 a46:=Tryz.isAgg143
 z46:=Tryz.sizeOf143
 v46:=Tryz.zeroValue143
 t51:=underlying176
 a51:=Tryz.isAgg176
 z51:=Tryz.sizeOf176
 v51:=Tryz.zeroValue176
 t53:=underlying178
 a53:=Tryz.isAgg178
 z53:=Tryz.sizeOf178
 v53:=Tryz.zeroValue178
 t171:=underlying184
 a171:=Tryz.isAgg184
 z171:=Tryz.sizeOf184
 v171:=Tryz.zeroValue184
 t173:=underlying186
 a173:=Tryz.isAgg186
 z173:=Tryz.sizeOf186
 v173:=Tryz.zeroValue186
 t212:=underlying199
 a212:=Tryz.isAgg199
 z212:=Tryz.sizeOf199
 v212:=Tryz.zeroValue199
 t213:=underlying200
 a213:=Tryz.isAgg200
 z213:=Tryz.sizeOf200
 t232:=underlying211
 a232:=Tryz.isAgg211
 z232:=Tryz.sizeOf211
 v232:=Tryz.zeroValue211
 t233:=underlying212
 a233:=Tryz.isAgg212
 z233:=Tryz.sizeOf212
 v233:=Tryz.zeroValue212
 g17:=by kernel_rfl
 g18:=by kernel_rfl
 g19:=by kernel_rfl
 i0:=by kernel_rfl
 i2:=by kernel_rfl
 i3:=by kernel_rfl
 i4:=by kernel_rfl
 i5:=by kernel_rfl
 i9:=by kernel_rfl
 i20:=by kernel_rfl
 i37:=by kernel_rfl
 i46:=by kernel_rfl
 i51:=by kernel_rfl
 i53:=by kernel_rfl
 i171:=by kernel_rfl
 i173:=by kernel_rfl
 i212:=by kernel_rfl
 i232:=by kernel_rfl
 i233:=by kernel_rfl
 m17:=by kernel_rfl
 m18:=by kernel_rfl
 m19:=by kernel_rfl }
def Tryz.laysM171_ren:Go.Shelf.Ren:=⟨λ| 171=>154 | 243=>176 | 246=>168 | 283=>197 | 284=>198 | 285=>199 | 286=>200 | 129=>186 | 317=>214 | 318=>215 | 319=>216 | 320=>217 | 337=>223 | 338=>224 | n=>n,λ| 3=>3 | 9=>9 | 2=>2 | 4=>4 | 171=>184 | 0=>0 | 53=>178 | 37=>156 | 5=>5 | 173=>186 | 212=>199 | 51=>176 | 20=>20 | 213=>200 | 46=>143 | 232=>211 | 233=>212 | n=>n,λ| 17=>1 | 18=>2 | 19=>3 | n=>n⟩
theorem Tryz.laysM171:Go.Proofs.LaysM.n171 Tryz.prog Tryz.laysM171_ren:={
 mixed:=by kernel_rfl
 f129:=func186.trans (congrArg some (by kernel_rfl))
 f171:=func154.trans (congrArg some (by kernel_rfl))
 f243:=func176.trans (congrArg some (by kernel_rfl))
 f246:=func168.trans (congrArg some (by kernel_rfl))
 f283:=func197.trans (congrArg some (by kernel_rfl))
 f284:=func198.trans (congrArg some (by kernel_rfl))
 f285:=func199.trans (congrArg some (by kernel_rfl))
 f286:=func200.trans (congrArg some (by kernel_rfl))
 f317:=func214.trans (congrArg some (by kernel_rfl))
 f318:=func215.trans (congrArg some (by kernel_rfl))
 f319:=func216.trans (congrArg some (by kernel_rfl))
 f320:=func217.trans (congrArg some (by kernel_rfl))
 f337:=func223.trans (congrArg some (by kernel_rfl))
 f338:=func224.trans (congrArg some (by kernel_rfl))
 t0:=underlying0
 a0:=Tryz.isAgg0
 z0:=Tryz.sizeOf0
 v0:=Tryz.zeroValue0
 t2:=underlying2
 a2:=Tryz.isAgg2
 z2:=Tryz.sizeOf2
 v2:=Tryz.zeroValue2
 t3:=underlying3
 a3:=Tryz.isAgg3
 z3:=Tryz.sizeOf3
 v3:=Tryz.zeroValue3
 t4:=underlying4
 a4:=Tryz.isAgg4
 z4:=Tryz.sizeOf4
 v4:=Tryz.zeroValue4
 t5:=underlying5
 a5:=Tryz.isAgg5
 z5:=Tryz.sizeOf5
 v5:=Tryz.zeroValue5
 t9:=underlying9
 a9:=Tryz.isAgg9
 z9:=Tryz.sizeOf9
 v9:=Tryz.zeroValue9
 t20:=underlying20
 a20:=Tryz.isAgg20
 z20:=Tryz.sizeOf20
 v20:=Tryz.zeroValue20
 t37:=underlying156
 a37:=Tryz.isAgg156
 z37:=Tryz.sizeOf156
 v37:=Tryz.zeroValue156
 t46:=underlying143
 a46:=Tryz.isAgg143
 z46:=Tryz.sizeOf143
 v46:=Tryz.zeroValue143
 t51:=underlying176
 a51:=Tryz.isAgg176
 z51:=Tryz.sizeOf176
 v51:=Tryz.zeroValue176
 t53:=underlying178
 a53:=Tryz.isAgg178
 z53:=Tryz.sizeOf178
 v53:=Tryz.zeroValue178
 t171:=underlying184
 a171:=Tryz.isAgg184
 z171:=Tryz.sizeOf184
 v171:=Tryz.zeroValue184
 t173:=underlying186
 a173:=Tryz.isAgg186
 z173:=Tryz.sizeOf186
 v173:=Tryz.zeroValue186
 t212:=underlying199
 a212:=Tryz.isAgg199
 z212:=Tryz.sizeOf199
 v212:=Tryz.zeroValue199
 t213:=underlying200
 a213:=Tryz.isAgg200
 z213:=Tryz.sizeOf200
 t232:=underlying211
 a232:=Tryz.isAgg211
 z232:=Tryz.sizeOf211
 v232:=Tryz.zeroValue211
 t233:=underlying212
 a233:=Tryz.isAgg212
 z233:=Tryz.sizeOf212
 v233:=Tryz.zeroValue212
 g17:=by kernel_rfl
 g18:=by kernel_rfl
 g19:=by kernel_rfl
 i0:=by kernel_rfl
 i2:=by kernel_rfl
 i3:=by kernel_rfl
 i4:=by kernel_rfl
 i5:=by kernel_rfl
 i9:=by kernel_rfl
 i20:=by kernel_rfl
 i37:=by kernel_rfl
 i46:=by kernel_rfl
 i51:=by kernel_rfl
 i53:=by kernel_rfl
 i171:=by kernel_rfl
 i173:=by kernel_rfl
 i212:=by kernel_rfl
 i232:=by kernel_rfl
 i233:=by kernel_rfl
 m17:=by kernel_rfl
 m18:=by kernel_rfl
 m19:=by kernel_rfl }
def Tryz.lays155_ren:Go.Shelf.Ren:=⟨λ| 155=>203 | 154=>220 | 138=>225 | 165=>169 | 143=>226 | 166=>170 | 197=>227 | 169=>171 | 195=>228 | 218=>229 | 240=>201 | 241=>202 | 219=>230 | 260=>231 | 276=>218 | 277=>219 | 217=>232 | 225=>233 | 224=>234 | 267=>235 | 266=>236 | 314=>237 | n=>n,λ| 9=>9 | 3=>3 | 4=>4 | 72=>158 | 0=>0 | 76=>162 | 105=>209 | 21=>21 | 5=>5 | 70=>155 | 20=>20 | 37=>156 | 75=>161 | 127=>188 | 164=>201 | 46=>143 | 119=>215 | 139=>218 | 138=>217 | 146=>219 | 51=>176 | 80=>164 | n=>n,λ| 1=>0 | 3=>4 | 4=>5 | n=>n⟩
theorem Tryz.lays155:Go.Proofs.Lays.n155 Tryz.prog Tryz.lays155_ren:={
 mixed:=by kernel_rfl
 f138:=func225.trans (congrArg some (by kernel_rfl))
 f143:=func226.trans (congrArg some (by kernel_rfl))
 f154:=func220.trans (congrArg some (by kernel_rfl))
 f155:=func203.trans (congrArg some (by kernel_rfl))
 f165:=func169.trans (congrArg some (by kernel_rfl))
 f166:=func170.trans (congrArg some (by kernel_rfl))
 f169:=func171.trans (congrArg some (by kernel_rfl))
 f195:=func228.trans (congrArg some (by kernel_rfl))
 f197:=func227.trans (congrArg some (by kernel_rfl))
 f217:=func232.trans (congrArg some (by kernel_rfl))
 f218:=func229.trans (congrArg some (by kernel_rfl))
 f219:=func230.trans (congrArg some (by kernel_rfl))
 f224:=func234.trans (congrArg some (by kernel_rfl))
 f225:=func233.trans (congrArg some (by kernel_rfl))
 f240:=func201.trans (congrArg some (by kernel_rfl))
 f241:=func202.trans (congrArg some (by kernel_rfl))
 f260:=func231.trans (congrArg some (by kernel_rfl))
 f266:=func236.trans (congrArg some (by kernel_rfl))
 f267:=func235.trans (congrArg some (by kernel_rfl))
 f276:=func218.trans (congrArg some (by kernel_rfl))
 f277:=func219.trans (congrArg some (by kernel_rfl))
 f314:=func237.trans (congrArg some (by kernel_rfl))
 t0:=underlying0
 a0:=Tryz.isAgg0
 z0:=Tryz.sizeOf0
 v0:=Tryz.zeroValue0
 t3:=underlying3
 a3:=Tryz.isAgg3
 z3:=Tryz.sizeOf3
 v3:=Tryz.zeroValue3
 t4:=underlying4
 a4:=Tryz.isAgg4
 z4:=Tryz.sizeOf4
 v4:=Tryz.zeroValue4
 t5:=underlying5
 a5:=Tryz.isAgg5
 z5:=Tryz.sizeOf5
 v5:=Tryz.zeroValue5
 t9:=underlying9
 a9:=Tryz.isAgg9
 z9:=Tryz.sizeOf9
 v9:=Tryz.zeroValue9
 t20:=underlying20
 a20:=Tryz.isAgg20
 z20:=Tryz.sizeOf20
 v20:=Tryz.zeroValue20
 t21:=underlying21
 a21:=Tryz.isAgg21
 z21:=Tryz.sizeOf21
 v21:=Tryz.zeroValue21
 t37:=underlying156
 a37:=Tryz.isAgg156
 z37:=Tryz.sizeOf156
 v37:=Tryz.zeroValue156
 t46:=underlying143
 a46:=Tryz.isAgg143
 z46:=Tryz.sizeOf143
 v46:=Tryz.zeroValue143
 t51:=underlying176
 a51:=Tryz.isAgg176
 z51:=Tryz.sizeOf176
 v51:=Tryz.zeroValue176
 t70:=underlying155
 a70:=Tryz.isAgg155
 z70:=Tryz.sizeOf155
 v70:=Tryz.zeroValue155
 t72:=underlying158
 a72:=Tryz.isAgg158
 z72:=Tryz.sizeOf158
 v72:=Tryz.zeroValue158
 t75:=underlying161
 a75:=Tryz.isAgg161
 z75:=Tryz.sizeOf161
 v75:=Tryz.zeroValue161
 t76:=underlying162
 a76:=Tryz.isAgg162
 z76:=Tryz.sizeOf162
 v76:=Tryz.zeroValue162
 t105:=underlying209
 a105:=Tryz.isAgg209
 z105:=Tryz.sizeOf209
 v105:=Tryz.zeroValue209
 t119:=underlying215
 a119:=Tryz.isAgg215
 z119:=Tryz.sizeOf215
 t127:=underlying188
 a127:=Tryz.isAgg188
 z127:=Tryz.sizeOf188
 v127:=Tryz.zeroValue188
 t138:=underlying217
 a138:=Tryz.isAgg217
 z138:=Tryz.sizeOf217
 v138:=Tryz.zeroValue217
 t139:=underlying218
 a139:=Tryz.isAgg218
 z139:=Tryz.sizeOf218
 v139:=Tryz.zeroValue218
 t146:=underlying219
 a146:=Tryz.isAgg219
 z146:=Tryz.sizeOf219
 v146:=Tryz.zeroValue219
 t164:=underlying201
 a164:=Tryz.isAgg201
 z164:=Tryz.sizeOf201
 v164:=Tryz.zeroValue201
 g1:=by kernel_rfl
 g3:=by kernel_rfl
 g4:=by kernel_rfl }
theorem Tryz.Builder_Extra_155:Builder.Extra Tryz.prog Tryz.lays155_ren:={
 sizeBuilder:=by kernel_rfl
 liesBuilder:=by kernel_rfl
 t5:=underlying5
 a5:=Tryz.isAgg5
 z5:=Tryz.sizeOf5
 v5:=Tryz.zeroValue5
 infoByte:=by kernel_rfl
 cellsByte:=by kernel_rfl
 sizeByte:=by kernel_rfl
 neB5:=by decide }
def Tryz.lays156_ren:Go.Shelf.Ren:=⟨λ| 156=>152 | 165=>169 | 166=>170 | 169=>171 | 240=>201 | 241=>202 | 276=>218 | 277=>219 | n=>n,λ| 31=>136 | 9=>9 | 3=>3 | 4=>4 | 0=>0 | 20=>20 | 72=>158 | 76=>162 | 70=>155 | 37=>156 | 75=>161 | 127=>188 | 164=>201 | 5=>5 | 80=>164 | n=>n,λ| n=>n⟩
theorem Tryz.lays156:Go.Proofs.Lays.n156 Tryz.prog Tryz.lays156_ren:={
 mixed:=by kernel_rfl
 f156:=func152.trans (congrArg some (by kernel_rfl))
 f165:=func169.trans (congrArg some (by kernel_rfl))
 f166:=func170.trans (congrArg some (by kernel_rfl))
 f169:=func171.trans (congrArg some (by kernel_rfl))
 f240:=func201.trans (congrArg some (by kernel_rfl))
 f241:=func202.trans (congrArg some (by kernel_rfl))
 f276:=func218.trans (congrArg some (by kernel_rfl))
 f277:=func219.trans (congrArg some (by kernel_rfl))
 t0:=underlying0
 a0:=Tryz.isAgg0
 z0:=Tryz.sizeOf0
 v0:=Tryz.zeroValue0
 t3:=underlying3
 a3:=Tryz.isAgg3
 z3:=Tryz.sizeOf3
 v3:=Tryz.zeroValue3
 t4:=underlying4
 a4:=Tryz.isAgg4
 z4:=Tryz.sizeOf4
 v4:=Tryz.zeroValue4
 t9:=underlying9
 a9:=Tryz.isAgg9
 z9:=Tryz.sizeOf9
 v9:=Tryz.zeroValue9
 t20:=underlying20
 a20:=Tryz.isAgg20
 z20:=Tryz.sizeOf20
 v20:=Tryz.zeroValue20
 t31:=underlying136
 a31:=Tryz.isAgg136
 z31:=Tryz.sizeOf136
 v31:=Tryz.zeroValue136
 t37:=underlying156
 a37:=Tryz.isAgg156
 z37:=Tryz.sizeOf156
 v37:=Tryz.zeroValue156
 t70:=underlying155
 a70:=Tryz.isAgg155
 z70:=Tryz.sizeOf155
 v70:=Tryz.zeroValue155
 t72:=underlying158
 a72:=Tryz.isAgg158
 z72:=Tryz.sizeOf158
 v72:=Tryz.zeroValue158
 t75:=underlying161
 a75:=Tryz.isAgg161
 z75:=Tryz.sizeOf161
 v75:=Tryz.zeroValue161
 t76:=underlying162
 a76:=Tryz.isAgg162
 z76:=Tryz.sizeOf162
 v76:=Tryz.zeroValue162
 t127:=underlying188
 a127:=Tryz.isAgg188
 z127:=Tryz.sizeOf188
 v127:=Tryz.zeroValue188
 t164:=underlying201
 a164:=Tryz.isAgg201
 z164:=Tryz.sizeOf201
 v164:=Tryz.zeroValue201 }
theorem Tryz.Builder_Extra_156:Builder.Extra Tryz.prog Tryz.lays156_ren:={
 sizeBuilder:=by kernel_rfl
 liesBuilder:=by kernel_rfl
 t5:=underlying5
 a5:=Tryz.isAgg5
 z5:=Tryz.sizeOf5
 v5:=Tryz.zeroValue5
 infoByte:=by kernel_rfl
 cellsByte:=by kernel_rfl
 sizeByte:=by kernel_rfl
 neB5:=by decide }
def Tryz.lays125_ren:Go.Shelf.Ren:=⟨λ| 125=>156 | 128=>185 | 129=>186 | n=>n,λ| 46=>143 | 3=>3 | 51=>176 | 53=>178 | 4=>4 | 5=>5 | 9=>9 | n=>n,λ| n=>n⟩
theorem Tryz.lays125:Go.Proofs.Lays.n125 Tryz.prog Tryz.lays125_ren:={
 mixed:=by kernel_rfl
 f125:=func156.trans (congrArg some (by kernel_rfl))
 f128:=func185.trans (congrArg some (by kernel_rfl))
 f129:=func186.trans (congrArg some (by kernel_rfl))
 t3:=underlying3
 a3:=Tryz.isAgg3
 z3:=Tryz.sizeOf3
 v3:=Tryz.zeroValue3
 t4:=underlying4
 a4:=Tryz.isAgg4
 z4:=Tryz.sizeOf4
 v4:=Tryz.zeroValue4
 t5:=underlying5
 a5:=Tryz.isAgg5
 z5:=Tryz.sizeOf5
 v5:=Tryz.zeroValue5
 t9:=underlying9
 a9:=Tryz.isAgg9
 z9:=Tryz.sizeOf9
 v9:=Tryz.zeroValue9
 t46:=underlying143
 a46:=Tryz.isAgg143
 z46:=Tryz.sizeOf143
 v46:=Tryz.zeroValue143
 t51:=underlying176
 a51:=Tryz.isAgg176
 z51:=Tryz.sizeOf176
 v51:=Tryz.zeroValue176
 t53:=underlying178
 a53:=Tryz.isAgg178
 z53:=Tryz.sizeOf178
 v53:=Tryz.zeroValue178 }
end Go.Proofs
namespace Go.Proofs.YtnolcogncjijpaaGreatDoor
open Go Go.Ab
open Go.Proofs.Tryz
def strings_Compare (s p:ByteArray):Bool×Int:=zDw s p
def zxf:Ab.Spec ty:=zi (cx:=base) (zf (zg zss) (zf (zg zss) zF)) λx=>((strings_Compare x.1 x.2.1).1,⟨[.pure (.lit (.int .i64 (strings_Compare x.1 x.2.1).2))],[]⟩)
theorem zH2:SdP 162 zxf:=zTz zeA Go.Proofs.Tryz.lays106 call162
end Go.Proofs.YtnolcogncjijpaaGreatDoor
namespace Go.Proofs.YtnolcogncjijpaaGreatDoor
open Go Go.Ab
open Go.Proofs.Tryz
def zPB:=zbR base 22 [(79,zjW),(88,ziH),(125,ziZ),(162,zxf)]
def zEY (a:Value) (b:Value):Wy0 (Int):=.bn (zc5 a.Kind b.Kind) λr2=>.bn (zhg a.Int b.Int) λr1=>.bn (zjX [r2,r1,(strings_Compare a.Text b.Text).2]) λr0=>.k r0
def zop (a:Value) (b:Value):=(zEY a b).fin default
def zti:=zi zQZ λx=>((zop x.1 x.2.1).1,zRK (zop x.1 x.2.1).2)
theorem zxS:SdP 128 zti:=
 sT (cx':=zPB) (zn ⟨znR,zjO,zkO,zH2,trivial⟩) call128 func128 (lOK aN)
def zyB (zu:yB->yB->Bool×Int) (zB:Wd->Wd->Bool×Int) (zq:yA->yA->Bool×Int) (zy:yD->yD->Bool×Int):=zbR base 51 [(38,(ziR zu)),(85,(zdo zB)),(88,ziH),(125,ziZ),(126,(zbf zq)),(127,(zbs zy)),(128,zti)]
def zqQ (zu:yB->yB->Bool×Int) (zB:Wd->Wd->Bool×Int) (zq:yA->yA->Bool×Int) (zy:yD->yD->Bool×Int) (a:At) (b:At):Wy0 (Int):=.bn (zc5 a.Kind b.Kind) λr8=>.bn (zc5 a.Row.Table b.Row.Table) λr7=>.bn (zc5 a.Row.Seq b.Row.Seq) λr6=>.bn (zq a.Ag b.Ag) λr5=>.bn (zc5 a.Func b.Func) λr4=>.bn (zy a.Items b.Items) λr3=>.bn (zc5 a.Op b.Op) λr2=>.bn (zop a.Bd b.Bd) λr1=>.bn (zjX [r8,r7,r6,r5,r4,r3,r2,r1]) λr0=>.k r0
def zis (zu:yB->yB->Bool×Int) (zB:Wd->Wd->Bool×Int) (zq:yA->yA->Bool×Int) (zy:yD->yD->Bool×Int) (a:At) (b:At):=(zqQ zu zB zq zy a b).fin default
theorem zwl (zu:yB->yB->Bool×Int) (zB:Wd->Wd->Bool×Int) (zq:yA->yA->Bool×Int) (zy:yD->yD->Bool×Int) (zhJ:SdP 38 (ziR zu)) (zkC:SdP 85 (zdo zB)) (zex:SdP 126 (zbf zq)) (zfy:SdP 127 (zbs zy)):SdP 73 (zjG (zis zu zB zq zy)):=
 sT (cx':=(zyB zu zB zq zy)) (zn ⟨zhJ,zkC,zjO,zkO,zex,zfy,zxS,trivial⟩) call73 func73 (lOK aN)
def zxb (zcu:At->At->Bool×Int):=zbR base 17 [(73,(zjG zcu)),(88,ziH),(125,ziZ)]
def zpw (zcu:At->At->Bool×Int) (a:Fc) (b:Fc):Wy0 (Int):=.bn (zcu (At.mk a.At.Kind a.At.Row a.At.Ag a.At.Func a.At.Items a.At.Op a.At.Bd) (At.mk b.At.Kind b.At.Row b.At.Ag b.At.Func b.At.Items b.At.Op b.At.Bd)) λr2=>.bn (zc5 a.Exp b.Exp) λr1=>.bn (zjX [r2,r1]) λr0=>.k r0
def zhp (zcu:At->At->Bool×Int) (a:Fc) (b:Fc):=(zpw zcu a b).fin default
theorem zuS (zcu:At->At->Bool×Int) (zzt:SdP 73 (zjG zcu)):SdP 124 (zdC (zhp zcu)):=
 sT (cx':=(zxb zcu)) (zn ⟨zzt,zjO,zkO,trivial⟩) call124 func124 (lOK aN)
def zyK (zu:yB->yB->Bool×Int):=zbR base 17 [(38,(ziR zu)),(88,ziH),(128,zti)]
def zqZ (zu:yB->yB->Bool×Int) (a:Wd) (b:Wd):Wy0 (Int):=.bn (zop a.Value b.Value) λr2=>.bn (zu a.Ann b.Ann) λr1=>.bn (zjX [r2,r1]) λr0=>.k r0
def ziq (zu:yB->yB->Bool×Int) (a:Wd) (b:Wd):=(zqZ zu a b).fin default
theorem zwk (zu:yB->yB->Bool×Int) (zhJ:SdP 38 (ziR zu)):SdP 85 (zdo (ziq zu)):=
 sT (cx':=(zyK zu)) (zn ⟨zhJ,zjO,zxS,trivial⟩) call85 func85 (lOK aN)
def zyH (zJ:yC->yC->Bool×Int) (zt:Fc->Fc->Bool×Int):=zbR base 10 [(123,(zbJ zJ)),(124,(zdC zt))]
def zqY (zJ:yC->yC->Bool×Int) (zt:Fc->Fc->Bool×Int) (a:Term) (b:Term):Wy0 (Int):=.bn (zJ a.Fs b.Fs) λr0=>.k r0
def zif (zJ:yC->yC->Bool×Int) (zt:Fc->Fc->Bool×Int) (a:Term) (b:Term):=(zqY zJ zt a b).fin default
theorem zwi (zJ:yC->yC->Bool×Int) (zt:Fc->Fc->Bool×Int) (zhh:SdP 123 (zbJ zJ)) (zjn:SdP 124 (zdC zt)):SdP 71 (zeX (zif zJ zt)):=
 sT (cx':=(zyH zJ zt)) (zn ⟨zhh,zjn,trivial⟩) call71 func71 (lOK aN)
abbrev zbq:=yA×yA×Unit×yA×Int×Int×Unit
abbrev zcO:=Int⊕(yA×yA)
def zek (zu:yB->yB->Bool×Int) (s1:yA) (s2:yA) (t11:yA) (t12:Int) (t13:Int):Wy zbq Unit zcO:=.i (decide (t13<t12)) (.i (decide (0<=t13)&&decide (t13<Int.ofNat t11.length)) (.i (decide (t13≥Int.ofNat s2.length)) (.k (.inl 1)) (.i (decide (0<=t13)&&decide (t13<Int.ofNat s2.length)) (.bn (zu (t11.getD t13.toNat default) (s2.getD t13.toNat default)) λr0=>.i (r0 != 0) (.k (.inl (r0))) (.h (s1,s2,(),t11,t12,(IntKind.i64.wrap (t13+1)),()) ())) .d)) .d) (.k (.inr (s1,s2)))
def zcj (zu:yB->yB->Bool×Int) (x:zbq) (y:Unit):=zek zu x.1 x.2.1 x.2.2.2.1 x.2.2.2.2.1 x.2.2.2.2.2.1
def zel (zu:yB->yB->Bool×Int) (n:Nat) (s1:yA) (s2:yA) (t11:yA) (t12:Int) (t13:Int):=zN (zcj zu) (.inl default) n (s1,s2,(),t11,t12,t13,()) ()
def zeb (r:zcO):LTree ty:=.ite (isL r) (.done .ret [.lit (.int .i64 (getL r))] []) (.done (.exit 0) [.sl 23 (getR r).1,.sl 23 (getR r).2] [])
def zej:LL ty zbq:=za (lSl 23) (za (lSl 23) (za (lFn 38 (zr)) (za (lSl 23) (za zm (za zm zr)))))
def zee (x:zbq) (y:Unit):Nat:=(x.1.length+x.2.1.length+x.2.2.2.1.length+Int.toNat x.2.2.2.2.1+Int.toNat x.2.2.2.2.2.1+1)
def zck (zu:yB->yB->Bool×Int):=zcC base 39 [(38,(ziR zu))] [] [(2,(kpL [0,1,2,11,12,13]))] [(2,1,(kpL [0,1])),(2,0,(kpL [6]))] [(2,spW zej zQf (zcj zu) (.inl default) zeb zee)] []
theorem zec (zu:yB->yB->Bool×Int):zR (zck zu) (lp (body f126) 0):=zD (id:=2) (hl:=rfl)
def zeo (zu:yB->yB->Bool×Int) (s1:yA) (s2:yA):Wy0 (Int):=.bn (zel zu (s1.length+s2.length+s1.length+(Int.ofNat s1.length).toNat +Int.toNat 0+1) s1 s2 s1 (Int.ofNat s1.length) 0) λr2=>.i (isL r2) (.k (getL r2)) (.i (decide (Int.ofNat (getR r2).1.length<Int.ofNat (getR r2).2.length)) (.k (-1:Int)) (.k 0))
def zbg (zu:yB->yB->Bool×Int) (s1:yA) (s2:yA):=(zeo zu s1 s2).fin default
theorem zdZ (zu:yB->yB->Bool×Int) (zhJ:SdP 38 (ziR zu)):SdP 126 (zbf (zbg zu)):=
 sT (cx':=(zck zu)) (zn ⟨zhJ,trivial⟩) call126 func126 (lOK (aC (zec zu) aN))
abbrev zbU:=yC×yC×Unit×yC×Int×Int×Unit
abbrev zdY:=Int⊕(yC×yC)
def zdb (zt:Fc->Fc->Bool×Int) (s1:yC) (s2:yC) (t11:yC) (t12:Int) (t13:Int):Wy zbU Unit zdY:=.i (decide (t13<t12)) (.i (decide (0<=t13)&&decide (t13<Int.ofNat t11.length)) (.i (decide (t13≥Int.ofNat s2.length)) (.k (.inl 1)) (.i (decide (0<=t13)&&decide (t13<Int.ofNat s2.length)) (.bn (zt (FO.mk (At.mk (t11.getD t13.toNat default).At.Kind (t11.getD t13.toNat default).At.Row (t11.getD t13.toNat default).At.Ag (t11.getD t13.toNat default).At.Func (t11.getD t13.toNat default).At.Items (t11.getD t13.toNat default).At.Op (t11.getD t13.toNat default).At.Bd) (t11.getD t13.toNat default).Exp) (FO.mk (At.mk (s2.getD t13.toNat default).At.Kind (s2.getD t13.toNat default).At.Row (s2.getD t13.toNat default).At.Ag (s2.getD t13.toNat default).At.Func (s2.getD t13.toNat default).At.Items (s2.getD t13.toNat default).At.Op (s2.getD t13.toNat default).At.Bd) (s2.getD t13.toNat default).Exp)) λr0=>.i (r0 != 0) (.k (.inl (r0))) (.h (s1,s2,(),t11,t12,(IntKind.i64.wrap (t13+1)),()) ())) .d)) .d) (.k (.inr (s1,s2)))
def zbz (zt:Fc->Fc->Bool×Int) (x:zbU) (y:Unit):=zdb zt x.1 x.2.1 x.2.2.2.1 x.2.2.2.2.1 x.2.2.2.2.2.1
def zdd (zt:Fc->Fc->Bool×Int) (n:Nat) (s1:yC) (s2:yC) (t11:yC) (t12:Int) (t13:Int):=zN (zbz zt) (.inl default) n (s1,s2,(),t11,t12,t13,()) ()
def zgL (r:zdY):LTree ty:=.ite (isL r) (.done .ret [.lit (.int .i64 (getL r))] []) (.done (.exit 0) [.sl 50 (getR r).1,.sl 50 (getR r).2] [])
def zha:LL ty zbU:=za (lSl 50) (za (lSl 50) (za (lFn 124 (zr)) (za (lSl 50) (za zm (za zm zr)))))
def zgQ (x:zbU) (y:Unit):Nat:=(x.1.length+x.2.1.length+x.2.2.2.1.length+Int.toNat x.2.2.2.2.1+Int.toNat x.2.2.2.2.2.1+1)
def zdc (zt:Fc->Fc->Bool×Int):=zcC base 39 [(124,(zdC zt))] [] [(2,(kpL [0,1,2,11,12,13]))] [(2,1,(kpL [0,1])),(2,0,(kpL [6]))] [(2,spW zha zQf (zbz zt) (.inl default) zgL zgQ)] []
theorem zgO (zt:Fc->Fc->Bool×Int):zR (zdc zt) (lp (body f123) 0):=zD (id:=2) (hl:=rfl)
def zdj (zt:Fc->Fc->Bool×Int) (s1:yC) (s2:yC):Wy0 (Int):=.bn (zdd zt (s1.length+s2.length+s1.length+(Int.ofNat s1.length).toNat +Int.toNat 0+1) s1 s2 s1 (Int.ofNat s1.length) 0) λr2=>.i (isL r2) (.k (getL r2)) (.i (decide (Int.ofNat (getR r2).1.length<Int.ofNat (getR r2).2.length)) (.k (-1:Int)) (.k 0))
def zbl (zt:Fc->Fc->Bool×Int) (s1:yC) (s2:yC):=(zdj zt s1 s2).fin default
theorem zgp (zt:Fc->Fc->Bool×Int) (zjn:SdP 124 (zdC zt)):SdP 123 (zbJ (zbl zt)):=
 sT (cx':=(zdc zt)) (zn ⟨zjn,trivial⟩) call123 func123 (lOK (aC (zgO zt) aN))
abbrev zbG:=yD×yD×Unit×yD×Int×Int×Unit
abbrev zdk:=Int⊕(yD×yD)
def zfj (zB:Wd->Wd->Bool×Int) (s1:yD) (s2:yD) (t11:yD) (t12:Int) (t13:Int):Wy zbG Unit zdk:=.i (decide (t13<t12)) (.i (decide (0<=t13)&&decide (t13<Int.ofNat t11.length)) (.i (decide (t13≥Int.ofNat s2.length)) (.k (.inl 1)) (.i (decide (0<=t13)&&decide (t13<Int.ofNat s2.length)) (.bn (zB (t11.getD t13.toNat default) (s2.getD t13.toNat default)) λr0=>.i (r0 != 0) (.k (.inl (r0))) (.h (s1,s2,(),t11,t12,(IntKind.i64.wrap (t13+1)),()) ())) .d)) .d) (.k (.inr (s1,s2)))
def zcF (zB:Wd->Wd->Bool×Int) (x:zbG) (y:Unit):=zfj zB x.1 x.2.1 x.2.2.2.1 x.2.2.2.2.1 x.2.2.2.2.2.1
def zfl (zB:Wd->Wd->Bool×Int) (n:Nat) (s1:yD) (s2:yD) (t11:yD) (t12:Int) (t13:Int):=zN (zcF zB) (.inl default) n (s1,s2,(),t11,t12,t13,()) ()
def ze8 (r:zdk):LTree ty:=.ite (isL r) (.done .ret [.lit (.int .i64 (getL r))] []) (.done (.exit 0) [.sl 52 (getR r).1,.sl 52 (getR r).2] [])
def zfg:LL ty zbG:=za (lSl 52) (za (lSl 52) (za (lFn 85 (zr)) (za (lSl 52) (za zm (za zm zr)))))
def zfb (x:zbG) (y:Unit):Nat:=(x.1.length+x.2.1.length+x.2.2.2.1.length+Int.toNat x.2.2.2.2.1+Int.toNat x.2.2.2.2.2.1+1)
def zcE (zB:Wd->Wd->Bool×Int):=zcC base 39 [(85,(zdo zB))] [] [(2,(kpL [0,1,2,11,12,13]))] [(2,1,(kpL [0,1])),(2,0,(kpL [6]))] [(2,spW zfg zQf (zcF zB) (.inl default) ze8 zfb)] []
theorem zfd (zB:Wd->Wd->Bool×Int):zR (zcE zB) (lp (body f127) 0):=zD (id:=2) (hl:=rfl)
def zfB (zB:Wd->Wd->Bool×Int) (s1:yD) (s2:yD):Wy0 (Int):=.bn (zfl zB (s1.length+s2.length+s1.length+(Int.ofNat s1.length).toNat +Int.toNat 0+1) s1 s2 s1 (Int.ofNat s1.length) 0) λr2=>.i (isL r2) (.k (getL r2)) (.i (decide (Int.ofNat (getR r2).1.length<Int.ofNat (getR r2).2.length)) (.k (-1:Int)) (.k 0))
def zbu (zB:Wd->Wd->Bool×Int) (s1:yD) (s2:yD):=(zfB zB s1 s2).fin default
theorem zeY (zB:Wd->Wd->Bool×Int) (zkC:SdP 85 (zdo zB)):SdP 127 (zbs (zbu zB)):=
 sT (cx':=(zcE zB)) (zn ⟨zkC,trivial⟩) call127 func127 (lOK (aC (zfd zB) aN))
abbrev zbQ:=yB×yB×Unit×yB×Int×Int×Unit
abbrev zdM:=Int⊕(yB×yB)
def zgw (zI:Term->Term->Bool×Int) (s1:yB) (s2:yB) (t11:yB) (t12:Int) (t13:Int):Wy zbQ Unit zdM:=.i (decide (t13<t12)) (.i (decide (0<=t13)&&decide (t13<Int.ofNat t11.length)) (.i (decide (t13≥Int.ofNat s2.length)) (.k (.inl 1)) (.i (decide (0<=t13)&&decide (t13<Int.ofNat s2.length)) (.bn (zI (t11.getD t13.toNat default) (s2.getD t13.toNat default)) λr0=>.i (r0 != 0) (.k (.inl (r0))) (.h (s1,s2,(),t11,t12,(IntKind.i64.wrap (t13+1)),()) ())) .d)) .d) (.k (.inr (s1,s2)))
def zc2 (zI:Term->Term->Bool×Int) (x:zbQ) (y:Unit):=zgw zI x.1 x.2.1 x.2.2.2.1 x.2.2.2.2.1 x.2.2.2.2.2.1
def zgz (zI:Term->Term->Bool×Int) (n:Nat) (s1:yB) (s2:yB) (t11:yB) (t12:Int) (t13:Int):=zN (zc2 zI) (.inl default) n (s1,s2,(),t11,t12,t13,()) ()
def zgm (r:zdM):LTree ty:=.ite (isL r) (.done .ret [.lit (.int .i64 (getL r))] []) (.done (.exit 0) [.sl 42 (getR r).1,.sl 42 (getR r).2] [])
def zgy:LL ty zbQ:=za (lSl 42) (za (lSl 42) (za (lFn 87 (zr)) (za (lSl 42) (za zm (za zm zr)))))
def zgk (x:zbQ) (y:Unit):Nat:=(x.1.length+x.2.1.length+x.2.2.2.1.length+Int.toNat x.2.2.2.2.1+Int.toNat x.2.2.2.2.2.1+1)
def zc3 (zI:Term->Term->Bool×Int):=zcC base 39 [(87,(zeX zI))] [] [(2,(kpL [0,1,2,11,12,13]))] [(2,1,(kpL [0,1])),(2,0,(kpL [6]))] [(2,spW zgy zQf (zc2 zI) (.inl default) zgm zgk)] []
theorem zgt (zI:Term->Term->Bool×Int):zR (zc3 zI) (lp (body f86) 0):=zD (id:=2) (hl:=rfl)
def zgI (zI:Term->Term->Bool×Int) (s1:yB) (s2:yB):Wy0 (Int):=.bn (zgz zI (s1.length+s2.length+s1.length+(Int.ofNat s1.length).toNat +Int.toNat 0+1) s1 s2 s1 (Int.ofNat s1.length) 0) λr2=>.i (isL r2) (.k (getL r2)) (.i (decide (Int.ofNat (getR r2).1.length<Int.ofNat (getR r2).2.length)) (.k (-1:Int)) (.k 0))
def zbB (zI:Term->Term->Bool×Int) (s1:yB) (s2:yB):=(zgI zI s1 s2).fin default
theorem zfP (zI:Term->Term->Bool×Int) (zlR:SdP 87 (zeX zI)):SdP 86 (zbC (zbB zI)):=
 sT (cx':=(zc3 zI)) (zn ⟨zlR,trivial⟩) call86 func86 (lOK (aC (zgt zI) aN))
def zbX:Nat->(yB->yB->Bool×Int)×(Term->Term->Bool×Int)×(Term->Term->Bool×Int)×(Fc->Fc->Bool×Int)×(At->At->Bool×Int)×(Wd->Wd->Bool×Int)×(yB->yB->Bool×Int)×(yC->yC->Bool×Int)×(yA->yA->Bool×Int)×(yD->yD->Bool×Int)
 | 0=>(λ_ _=>(false,default),λ_ _=>(false,default),λ_ _=>(false,default),λ_ _=>(false,default),λ_ _=>(false,default),λ_ _=>(false,default),λ_ _=>(false,default),λ_ _=>(false,default),λ_ _=>(false,default),λ_ _=>(false,default))
 | n+1=>(zlS ((zbX n).2.2.2.2.2.2.1) ((zbX n).2.1),zjq ((zbX n).2.2.1),zif ((zbX n).2.2.2.2.2.2.2.1) ((zbX n).2.2.2.1),zhp ((zbX n).2.2.2.2.1),zis ((zbX n).1) ((zbX n).2.2.2.2.2.1) ((zbX n).2.2.2.2.2.2.2.2.1) ((zbX n).2.2.2.2.2.2.2.2.2),ziq ((zbX n).1),zbB ((zbX n).2.1),zbl ((zbX n).2.2.2.1),zbg ((zbX n).1),zbu ((zbX n).2.2.2.2.2.1))
def ze3 (n:Nat):yB->yB->Bool×Int:=(zbX n).1
def zg6 (n:Nat):Term->Term->Bool×Int:=(zbX n).2.1
def zfG (n:Nat):Term->Term->Bool×Int:=(zbX n).2.2.1
def zeJ (n:Nat):Fc->Fc->Bool×Int:=(zbX n).2.2.2.1
def zfE (n:Nat):At->At->Bool×Int:=(zbX n).2.2.2.2.1
def zd6 (n:Nat):Wd->Wd->Bool×Int:=(zbX n).2.2.2.2.2.1
def zbD (n:Nat):yB->yB->Bool×Int:=(zbX n).2.2.2.2.2.2.1
def zbH (n:Nat):yC->yC->Bool×Int:=(zbX n).2.2.2.2.2.2.2.1
def zbe (n:Nat):yA->yA->Bool×Int:=(zbX n).2.2.2.2.2.2.2.2.1
def zbt (n:Nat):yD->yD->Bool×Int:=(zbX n).2.2.2.2.2.2.2.2.2
theorem zEv (n:Nat):ze3 (n+1)=zlS (zbD n) (zg6 n):=rfl
theorem zAz (n:Nat):zg6 (n+1)=zjq (zfG n):=rfl
theorem zx3 (n:Nat):zfG (n+1)=zif (zbH n) (zeJ n):=rfl
theorem zwt (n:Nat):zeJ (n+1)=zhp (zfE n):=rfl
theorem zyq (n:Nat):zfE (n+1)=zis (ze3 n) (zd6 n) (zbe n) (zbt n):=rfl
theorem zyt (n:Nat):zd6 (n+1)=ziq (ze3 n):=rfl
theorem zgx (n:Nat):zbD (n+1)=zbB (zg6 n):=rfl
theorem zg2 (n:Nat):zbH (n+1)=zbl (zeJ n):=rfl
theorem zeh (n:Nat):zbe (n+1)=zbg (ze3 n):=rfl
theorem zfh (n:Nat):zbt (n+1)=zbu (zd6 n):=rfl
theorem zr4:∀ n,SdP 38 (ziR (ze3 n))/\SdP 87 (zeX (zg6 n))/\SdP 71 (zeX (zfG n))/\SdP 124 (zdC (zeJ n))/\SdP 73 (zjG (zfE n))/\SdP 85 (zdo (zd6 n))/\SdP 86 (zbC (zbD n))/\SdP 123 (zbJ (zbH n))/\SdP 126 (zbf (zbe n))/\SdP 127 (zbs (zbt n))
 | 0=>⟨zbd call38 (λ_=>rfl),zbd call87 (λ_=>rfl),zbd call71 (λ_=>rfl),zbd call124 (λ_=>rfl),zbd call73 (λ_=>rfl),zbd call85 (λ_=>rfl),zbd call86 (λ_=>rfl),zbd call123 (λ_=>rfl),zbd call126 (λ_=>rfl),zbd call127 (λ_=>rfl)⟩
 | n+1=>by
  have ih:=zr4 n;exact ⟨zA0 _ _ (ih.2.2.2.2.2.2.1) (ih.2.1),zxw _ (ih.2.2.1),zwi _ _ (ih.2.2.2.2.2.2.2.1) (ih.2.2.2.1),zuS _ (ih.2.2.2.2.1),zwl _ _ _ _ (ih.1) (ih.2.2.2.2.2.1) (ih.2.2.2.2.2.2.2.2.1) (ih.2.2.2.2.2.2.2.2.2),zwk _ (ih.1),zfP _ (ih.2.1),zgp _ (ih.2.2.2.1),zdZ _ (ih.1),zeY _ (ih.2.2.2.2.2.1)⟩
def ztg:yB->yB->Bool×Int:=ze3 1000
def zui:Ab.Spec ty:=ziR ztg
theorem zDK:SdP 38 zui:=(zr4 1000).1
def zb1:Term->Term->Bool×Int:=zfG 1000
def zgJ:Ab.Spec ty:=zeX zb1
theorem zjk:SdP 71 zgJ:=(zr4 1000).2.2.1
def zg9:At->At->Bool×Int:=zfE 1000
def zjK:Ab.Spec ty:=zjG zg9
theorem zpv:SdP 73 zjK:=(zr4 1000).2.2.2.2.1
def zbw:Wd->Wd->Bool×Int:=zd6 1000
def zeu:Ab.Spec ty:=zdo zbw
theorem zf9:SdP 85 zeu:=(zr4 1000).2.2.2.2.2.1
def zCn:AL base (Wd×Unit):=zf (zg (zdh 52)) zF
def zcM (F:Wd->Bool×Bool):Ab.Spec ty:=zi zCn λx=>((F x.1).1,zRi (F x.1).2)
def zlh:AL base (yA×Unit×Unit):=zf (zg (vSl 23)) (zf (zg (vFn 130 zcQ)) zF)
def zce (F:yA->Bool×Int):Ab.Spec ty:=zi zlh λx=>((F x.1).1,zRK (F x.1).2)
def zb6 (F:yA->Bool×Bool):Ab.Spec ty:=zi zlh λx=>((F x.1).1,zRi (F x.1).2)
def zmN:AL base (yD×Unit×Unit):=zf (zg (vSl 52)) (zf (zg (vFn 131 zcQ)) zF)
def zcA (F:yD->Bool×Int):Ab.Spec ty:=zi zmN λx=>((F x.1).1,zRK (F x.1).2)
def zcm (F:yD->Bool×Bool):Ab.Spec ty:=zi zmN λx=>((F x.1).1,zRi (F x.1).2)
def zCO:=zbR base 11 []
def zuc (x_:At):Wy0 (Bool):=.i (x_.Kind==3) (.k true) (.k (x_.Kind==4))
def zeq (x_:At):=(zuc x_).fin default
def zhP:=zi zOs λx=>((zeq x.1).1,zRi (zeq x.1).2)
theorem zkD:SdP 72 zhP:=
 sT (cx':=zCO) (zn trivial) call72 func72 (lOK aN)
end Go.Proofs.YtnolcogncjijpaaGreatDoor
end
