/- Texts of this claim, joined (the program, its functions in plain words, and what they compute). -/
import Derived.Test.YtoknknbmfmddbaaGreatDoorGC4
set_option autoImplicit false
set_option linter.unusedVariables false
set_option linter.unusedSectionVars false
set_option linter.unusedSimpArgs false
set_option maxRecDepth 1000000
set_option maxHeartbeats 0
noncomputable section
namespace Go.Proofs.YtoknknbmfmddbaaGreatDoor
open Go Go.Ab
open Go.Proofs.Tryz
def zbaA:=zbp base 4 []
def zYu (less:Bool):Wy0 (Int):=.i (less) (.k (-1:Int)) (.k 1)
def ztf (less:Bool):=(zYu less).fin default
def zbcR:AL base (Bool×Unit):=zd (ze zbnE) zp
def zE6:=zh zbcR λx=>((ztf x.1).1,zQ3 (ztf x.1).2)
theorem zMp:SdP 114 zE6:=
 sT (cx':=zbaA) (zi trivial) call114 func114 (lOK aN)
def z3s:=zbp base 38 [(114,zE6)]
def zPO (a:Value) (b:Value):Wy0 (Int):=.i (a.Kind != b.Kind) (.bn (ztf (decide (a.Kind<b.Kind))) λr0=>.k r0) (.i (a.Int != b.Int) (.bn (ztf (decide (a.Int<b.Int))) λr1=>.k r1) (.i (!a.Text.toList==b.Text.toList) (.bn (ztf (Op.bytesLess a.Text.toList b.Text.toList)) λr2=>.k r2) (.k 0)))
def zka (a:Value) (b:Value):=(zPO a b).fin default
def zth:=zh z4X λx=>((zka x.1 x.2.1).1,zQ3 (zka x.1 x.2.1).2)
theorem zyI:SdP 113 zth:=
 sT (cx':=z3s) (zi ⟨zMp,trivial⟩) call113 func113 (lOK aN)
abbrev zoD:=yG×yG×Int×Unit
abbrev zDX:=Int⊕(yG×yG)
def zw8 (a:yG) (b:yG) (i:Int):Wy zoD Unit zDX:=.i (decide (i<Int.ofNat a.length)) (.i (decide (i<Int.ofNat b.length)) (.ix i a.length (.ix i b.length (.bn (zka (a.getD i.toNat default) (b.getD i.toNat default)) λr0=>.i (r0 != 0) (.k (.inl (r0))) (.h (a,b,(IntKind.i64.wrap (i+1)),()) ())))) (.k (.inr (a,b)))) (.k (.inr (a,b)))
def zF4 (x:zoD) (y:Unit):=zw8 x.1 x.2.1 x.2.2.1
def zxi (n:Nat) (a:yG) (b:yG) (i:Int):=zy (zF4) (.inl default) n (a,b,i,()) ()
def zSM (r:zDX):LTree ty:=.ite (isL r) (.done .ret [.lit (.int .i64 (getL r))] []) (.done (.exit 0) [.sl 79 (getR r).1,.sl 79 (getR r).2] [])
def zUt:LL ty zoD:=za (lSl 79) (za (lSl 79) (za zj zk))
def zTe (x:zoD) (y:Unit):Nat:=(x.1.length+x.2.1.length+Int.toNat x.2.2.1+1)
def zF2:=zbV base 42 [(113,zth),(114,zE6)] [] [(2,(kpL [0,1,5]))] [(2,1,(kpL [0,1])),(2,0,(kpL [4]))] [(2,spW zUt zbaJ (zF4) (.inl default) zSM zTe)] []
theorem zTa:zC zF2 (lp (body f57) 0):=zn (id:=2) (hl:=rfl)
def zGw (a:yG) (b:yG):Wy0 (Int):=.bn (zxi (a.length+b.length+Int.toNat 0+1) a b 0) λr3=>.i (isL r3) (.k (getL r3)) (.i (Int.ofNat (getR r3).1.length==Int.ofNat (getR r3).2.length) (.k 0) (.bn (ztf (decide (Int.ofNat (getR r3).1.length<Int.ofNat (getR r3).2.length))) λr2=>.k r2))
def zlS (a:yG) (b:yG):=(zGw a b).fin default
def zuI:=zh zWn λx=>((zlS x.1 x.2.1).1,zQ3 (zlS x.1 x.2.1).2)
theorem zA9:SdP 57 zuI:=
 sT (cx':=zF2) (zi ⟨zyI,zMp,trivial⟩) call57 func57 (lOK (aC zTa aN))
def zbap:=zbp base 9 [(57,zuI)]
def zYW (a:yG) (b:yG):Wy0 (Bool):=.bn (zlS a b) λr0=>.k (r0==0)
def zFt (a:yG) (b:yG):=(zYW a b).fin default
def zPu:=zh zWn λx=>((zFt x.1 x.2.1).1,zXz (zFt x.1 x.2.1).2)
theorem z3z:SdP 31 zPu:=
 sT (cx':=zbap) (zi ⟨zA9,trivial⟩) call31 func31 (lOK aN)
def zjX (F:yC->yC->Bool×Int):Ab.Spec ty:=zh z1e λx=>((F x.1 x.2.1).1,zQ3 (F x.1 x.2.1).2)
def zTz:AL base (yD×yD×Unit):=zd (ze (vSl 169)) (zd (ze (vSl 169)) zp)
def zk8 (F:yD->yD->Bool×Int):Ab.Spec ty:=zh zTz λx=>((F x.1 x.2.1).1,zQ3 (F x.1 x.2.1).2)
def z61:=zbp base 11 []
def zSX (a:Int) (b:Int):Wy0 (Int):=.i (decide (a<b)) (.k (-1:Int)) (.i (decide (a>b)) (.k 1) (.k 0))
def zc0 (a:Int) (b:Int):=(zSX a b).fin default
def zjq:=zh zW3 λx=>((zc0 x.1 x.2.1).1,zQ3 (zc0 x.1 x.2.1).2)
theorem zkp:SdP 129 zjq:=
 sT (cx':=z61) (zi trivial) call129 func129 (lOK aN)
abbrev zxo:=yB×yB×Int×Unit
abbrev zMN:=Int⊕(yB×yB)
def zXQ (zbk:yC->yC->Bool×Int) (a:yB) (b:yB) (i:Int):Wy zxo Unit zMN:=.i (decide (i<Int.ofNat a.length)) (.i (decide (i<Int.ofNat b.length)) (.ix i a.length (.ix i b.length (.bn (zbk (a.getD i.toNat default).Fs (b.getD i.toNat default).Fs) λr1=>.i (r1 != 0) (.k (.inl (r1))) (.ix i a.length (.ix i b.length (.bn (zc0 (a.getD i.toNat default).Cf (b.getD i.toNat default).Cf) λr0=>.i (r0 != 0) (.k (.inl (r0))) (.h (a,b,(IntKind.i64.wrap (i+1)),()) ()))))))) (.k (.inr (a,b)))) (.k (.inr (a,b)))
def zJz (zbk:yC->yC->Bool×Int) (x:zxo) (y:Unit):=zXQ zbk x.1 x.2.1 x.2.2.1
def zYO (zbk:yC->yC->Bool×Int) (n:Nat) (a:yB) (b:yB) (i:Int):=zy (zJz zbk) (.inl default) n (a,b,i,()) ()
def zWD (r:zMN):LTree ty:=.ite (isL r) (.done .ret [.lit (.int .i64 (getL r))] []) (.done (.exit 0) [.sl 107 (getR r).1,.sl 107 (getR r).2] [])
def zXN:LL ty zxo:=za (lSl 107) (za (lSl 107) (za zj zk))
def zXx (x:zxo) (y:Unit):Nat:=(x.1.length+x.2.1.length+Int.toNat x.2.2.1+1)
def zIW (zbk:yC->yC->Bool×Int):=zbV base 53 [(110,(zjX zbk)),(129,zjq)] [] [(2,(kpL [0,1,5]))] [(2,1,(kpL [0,1])),(2,0,(kpL [4]))] [(2,spW zXN zbaJ (zJz zbk) (.inl default) zWD zXx)] []
theorem zWu (zbk:yC->yC->Bool×Int):zC (zIW zbk) (lp (body f76) 0):=zn (id:=2) (hl:=rfl)
def z1C (zbk:yC->yC->Bool×Int) (a:yB) (b:yB):Wy0 (Int):=.bn (zYO zbk (a.length+b.length+Int.toNat 0+1) a b 0) λr5=>.i (isL r5) (.k (getL r5)) (.bn (zc0 (Int.ofNat (getR r5).1.length) (Int.ofNat (getR r5).2.length)) λr4=>.k r4)
def zyZ (zbk:yC->yC->Bool×Int) (a:yB) (b:yB):=(z1C zbk a b).fin default
theorem zSI (zbk:yC->yC->Bool×Int) (zM0:SdP 110 (zjX zbk)):SdP 76 (zey (zyZ zbk)):=
 sT (cx':=(zIW zbk)) (zi ⟨zM0,zkp,trivial⟩) call76 func76 (lOK (aC (zWu zbk) aN))
def zXA:=zbp base 19 [(129,zjq)]
def zIv (a:RowID) (b:RowID):Wy0 (Int):=.bn (zc0 a.Table b.Table) λr1=>.i (r1 != 0) (.k r1) (.bn (zc0 a.Seq b.Seq) λr0=>.k r0)
def zrh (a:RowID) (b:RowID):=(zIv a b).fin default
def zXG:AL base (RowID×RowID×Unit):=zd (ze (zb7 63)) (zd (ze (zb7 63)) zp)
def zDM:=zh zXG λx=>((zrh x.1 x.2.1).1,zQ3 (zrh x.1 x.2.1).2)
theorem zQa:SdP 189 zDM:=
 sT (cx':=zXA) (zi ⟨zkp,trivial⟩) call189 func189 (lOK aN)
abbrev zqc:=Unit×Unit×Int×Unit
abbrev zqk:=At×At×Unit
abbrev zFs:=Int⊕(At×At)
def zuH (zT:yB->yB->Bool×Int) (zbz:yD->yD->Bool×Int) (i:Int) (a:At) (b:At):Wy zqc zqk zFs:=.i (decide (i<Int.ofNat a.Ag.length)) (.i (decide (i<Int.ofNat b.Ag.length)) (.ix i a.Ag.length (.ix i b.Ag.length (.bn (zT (a.Ag.getD i.toNat default) (b.Ag.getD i.toNat default)) λr0=>.i (r0 != 0) (.k (.inl (r0))) (.h ((),(),(IntKind.i64.wrap (i+1)),()) (a,b,()))))) (.k (.inr (a,b)))) (.k (.inr (a,b)))
def zBW (zT:yB->yB->Bool×Int) (zbz:yD->yD->Bool×Int) (x:zqc) (y:zqk):=zuH zT zbz x.2.2.1 y.1 y.2.1
def zuD (zT:yB->yB->Bool×Int) (zbz:yD->yD->Bool×Int) (n:Nat) (i:Int) (a:At) (b:At):=zy (zBW zT zbz) (.inl default) n ((),(),i,()) (a,b,())
def zOU (r:zFs):LTree ty:=.ite (isL r) (.done .ret [.lit (.int .i64 (getL r))] []) (.done (.exit 0) [.ptr 384 0,.ptr 385 0] [.box (base.enc 143 (getR r).1) false,.box (base.enc 143 (getR r).2) false])
def zQz:LL ty zqc:=za (zcm 384 0) (za (zcm 385 0) (za zj zk))
def zQw:BL ty zqk:=zdx (zdi (λx=>(⟨x.1,⟨x.2.1,x.2.2.1⟩,x.2.2.2.1,x.2.2.2.2.1,x.2.2.2.2.2.1,x.2.2.2.2.2.2.1,⟨x.2.2.2.2.2.2.2.1,x.2.2.2.2.2.2.2.2.1,x.2.2.2.2.2.2.2.2.2.1⟩⟩:At)) (λx=>(x.Kind,x.Row.Table,x.Row.Seq,x.Ag,x.Func,x.Items,x.Op,x.Bd.Kind,x.Bd.Int,x.Bd.Text,())) (λ_=>rfl) (za (zL .i64) (za (zL .i64) (za (zL .i64) (za (lSl 51) (za (zL .i64) (za (lSl 169) (za (zL .i64) (za (zL .i64) (za (zL .i64) (za zoZ zk))))))))))) false (zdx (zdi (λx=>(⟨x.1,⟨x.2.1,x.2.2.1⟩,x.2.2.2.1,x.2.2.2.2.1,x.2.2.2.2.2.1,x.2.2.2.2.2.2.1,⟨x.2.2.2.2.2.2.2.1,x.2.2.2.2.2.2.2.2.1,x.2.2.2.2.2.2.2.2.2.1⟩⟩:At)) (λx=>(x.Kind,x.Row.Table,x.Row.Seq,x.Ag,x.Func,x.Items,x.Op,x.Bd.Kind,x.Bd.Int,x.Bd.Text,())) (λ_=>rfl) (za (zL .i64) (za (zL .i64) (za (zL .i64) (za (lSl 51) (za (zL .i64) (za (lSl 169) (za (zL .i64) (za (zL .i64) (za (zL .i64) (za zoZ zk))))))))))) false (zY))
def zO0 (x:zqc) (y:zqk):Nat:=(Int.toNat x.2.2.1+y.1.Ag.length+y.1.Items.length+y.2.1.Ag.length+y.2.1.Items.length+1)
def zB0 (zT:yB->yB->Bool×Int) (zbz:yD->yD->Bool×Int):=zbV base 96 [(76,(zey zT)),(113,zth),(129,zjq),(188,(zk8 zbz)),(189,zDM)] [] [(8,(kpL [2,3,7]))] [(8,1,(kpL [2,3])),(8,0,(kpL [4]))] [(8,spW zQz zQw (zBW zT zbz) (.inl default) zOU zO0)] []
theorem zOt (zT:yB->yB->Bool×Int) (zbz:yD->yD->Bool×Int):zC (zB0 zT zbz) (lp (body f112) 0):=zn (id:=8) (hl:=rfl)
def zDS (zT:yB->yB->Bool×Int) (zbz:yD->yD->Bool×Int) (a:At) (b:At):Wy0 (Int):=.bn (zc0 a.Kind b.Kind) λr9=>.i (r9 != 0) (.k r9) (.bn (zrh a.Row b.Row) λr8=>.i (r8 != 0) (.k r8) (.bn (zuD zT zbz (Int.toNat 0+a.Ag.length+a.Items.length+b.Ag.length+b.Items.length+1) 0 (At.et a) (At.et b)) λr7=>.i (isL r7) (.k (getL r7)) (.bn (zc0 (Int.ofNat (getR r7).1.Ag.length) (Int.ofNat (getR r7).2.Ag.length)) λr6=>.i (r6 != 0) (.k r6) (.bn (zc0 (getR r7).1.Func (getR r7).2.Func) λr5=>.i (r5 != 0) (.k r5) (.bn (zbz (getR r7).1.Items (getR r7).2.Items) λr4=>.i (r4 != 0) (.k r4) (.bn (zc0 (getR r7).1.Op (getR r7).2.Op) λr3=>.i (r3 != 0) (.k r3) (.bn (zka (getR r7).1.Bd (getR r7).2.Bd) λr2=>.k r2)))))))
def zmA (zT:yB->yB->Bool×Int) (zbz:yD->yD->Bool×Int) (a:At) (b:At):=(zDS zT zbz a b).fin default
theorem zLl (zT:yB->yB->Bool×Int) (zbz:yD->yD->Bool×Int) (zBu:SdP 76 (zey zT)) (zQL:SdP 188 (zk8 zbz)):SdP 112 (zhE (zmA zT zbz)):=
 sT (cx':=(zB0 zT zbz)) (zi ⟨zBu,zyI,zkp,zQL,zQa,trivial⟩) call112 func112 (lOK (aC (zOt zT zbz) aN))
abbrev zmq:=yC×yC×Int×Unit
abbrev zA1:=Int⊕(yC×yC)
def zy8 (zbF:At->At->Bool×Int) (a:yC) (b:yC) (i:Int):Wy zmq Unit zA1:=.i (decide (i<Int.ofNat a.length)) (.i (decide (i<Int.ofNat b.length)) (.ix i a.length (.ix i b.length (.bn (zbF (At.et ((a.getD i.toNat default).At)) (At.et ((b.getD i.toNat default).At))) λr1=>.i (r1 != 0) (.k (.inl (r1))) (.ix i a.length (.ix i b.length (.bn (zc0 (a.getD i.toNat default).Exp (b.getD i.toNat default).Exp) λr0=>.i (r0 != 0) (.k (.inl (r0))) (.h (a,b,(IntKind.i64.wrap (i+1)),()) ()))))))) (.k (.inr (a,b)))) (.k (.inr (a,b)))
def zkL (zbF:At->At->Bool×Int) (x:zmq) (y:Unit):=zy8 zbF x.1 x.2.1 x.2.2.1
def zzc (zbF:At->At->Bool×Int) (n:Nat) (a:yC) (b:yC) (i:Int):=zy (zkL zbF) (.inl default) n (a,b,i,()) ()
def zJ1 (r:zA1):LTree ty:=.ite (isL r) (.done .ret [.lit (.int .i64 (getL r))] []) (.done (.exit 0) [.sl 145 (getR r).1,.sl 145 (getR r).2] [])
def zLR:LL ty zmq:=za (lSl 145) (za (lSl 145) (za zj zk))
def zJ3 (x:zmq) (y:Unit):Nat:=(x.1.length+x.2.1.length+Int.toNat x.2.2.1+1)
def zzg (zbF:At->At->Bool×Int):=zbV base 53 [(112,(zhE zbF)),(129,zjq)] [] [(2,(kpL [0,1,5]))] [(2,1,(kpL [0,1])),(2,0,(kpL [4]))] [(2,spW zLR zbaJ (zkL zbF) (.inl default) zJ1 zJ3)] []
theorem zKb (zbF:At->At->Bool×Int):zC (zzg zbF) (lp (body f110) 0):=zn (id:=2) (hl:=rfl)
def zAg (zbF:At->At->Bool×Int) (a:yC) (b:yC):Wy0 (Int):=.bn (zzc zbF (a.length+b.length+Int.toNat 0+1) a b 0) λr5=>.i (isL r5) (.k (getL r5)) (.bn (zc0 (Int.ofNat (getR r5).1.length) (Int.ofNat (getR r5).2.length)) λr4=>.k r4)
def zjZ (zbF:At->At->Bool×Int) (a:yC) (b:yC):=(zAg zbF a b).fin default
theorem zHf (zbF:At->At->Bool×Int) (zSB:SdP 112 (zhE zbF)):SdP 110 (zjX (zjZ zbF)):=
 sT (cx':=(zzg zbF)) (zi ⟨zSB,zkp,trivial⟩) call110 func110 (lOK (aC (zKb zbF) aN))
abbrev zoC:=yD×yD×Int×Unit
abbrev zDI:=Int⊕(yD×yD)
def zOe (zT:yB->yB->Bool×Int) (a:yD) (b:yD) (i:Int):Wy zoC Unit zDI:=.i (decide (i<Int.ofNat a.length)) (.i (decide (i<Int.ofNat b.length)) (.ix i a.length (.ix i b.length (.bn (zka (a.getD i.toNat default).Value (b.getD i.toNat default).Value) λr1=>.i (r1 != 0) (.k (.inl (r1))) (.ix i a.length (.ix i b.length (.bn (zT (a.getD i.toNat default).Ann (b.getD i.toNat default).Ann) λr0=>.i (r0 != 0) (.k (.inl (r0))) (.h (a,b,(IntKind.i64.wrap (i+1)),()) ()))))))) (.k (.inr (a,b)))) (.k (.inr (a,b)))
def zAV (zT:yB->yB->Bool×Int) (x:zoC) (y:Unit):=zOe zT x.1 x.2.1 x.2.2.1
def zOE (zT:yB->yB->Bool×Int) (n:Nat) (a:yD) (b:yD) (i:Int):=zy (zAV zT) (.inl default) n (a,b,i,()) ()
def zNd (r:zDI):LTree ty:=.ite (isL r) (.done .ret [.lit (.int .i64 (getL r))] []) (.done (.exit 0) [.sl 169 (getR r).1,.sl 169 (getR r).2] [])
def zOp:LL ty zoC:=za (lSl 169) (za (lSl 169) (za zj zk))
def zNu (x:zoC) (y:Unit):Nat:=(x.1.length+x.2.1.length+Int.toNat x.2.2.1+1)
def zAY (zT:yB->yB->Bool×Int):=zbV base 53 [(76,(zey zT)),(113,zth),(129,zjq)] [] [(2,(kpL [0,1,5]))] [(2,1,(kpL [0,1])),(2,0,(kpL [4]))] [(2,spW zOp zbaJ (zAV zT) (.inl default) zNd zNu)] []
theorem zM3 (zT:yB->yB->Bool×Int):zC (zAY zT) (lp (body f188) 0):=zn (id:=2) (hl:=rfl)
def zQq (zT:yB->yB->Bool×Int) (a:yD) (b:yD):Wy0 (Int):=.bn (zOE zT (a.length+b.length+Int.toNat 0+1) a b 0) λr5=>.i (isL r5) (.k (getL r5)) (.bn (zc0 (Int.ofNat (getR r5).1.length) (Int.ofNat (getR r5).2.length)) λr4=>.k r4)
def zp4 (zT:yB->yB->Bool×Int) (a:yD) (b:yD):=(zQq zT a b).fin default
theorem zJ2 (zT:yB->yB->Bool×Int) (zBu:SdP 76 (zey zT)):SdP 188 (zk8 (zp4 zT)):=
 sT (cx':=(zAY zT)) (zi ⟨zBu,zyI,zkp,trivial⟩) call188 func188 (lOK (aC (zM3 zT) aN))
def zlx:Nat->(yB->yB->Bool×Int)×(yC->yC->Bool×Int)×(At->At->Bool×Int)×(yD->yD->Bool×Int)
 | 0=>(λ_ _=>(false,default),λ_ _=>(false,default),λ_ _=>(false,default),λ_ _=>(false,default))
 | n+1=>(zyZ ((zlx n).2.1),zjZ ((zlx n).2.2.1),zmA ((zlx n).1) ((zlx n).2.2.2),zp4 ((zlx n).1))
def zox (n:Nat):yB->yB->Bool×Int:=(zlx n).1
def zj2 (n:Nat):yC->yC->Bool×Int:=(zlx n).2.1
def zmI (n:Nat):At->At->Bool×Int:=(zlx n).2.2.1
def zlv (n:Nat):yD->yD->Bool×Int:=(zlx n).2.2.2
theorem zYm (n:Nat):zox (n+1)=zyZ (zj2 n):=rfl
theorem zLk (n:Nat):zj2 (n+1)=zjZ (zmI n):=rfl
theorem zQE (n:Nat):zmI (n+1)=zmA (zox n) (zlv n):=rfl
theorem zON (n:Nat):zlv (n+1)=zp4 (zox n):=rfl
theorem zvc:∀ n,SdP 76 (zey (zox n))/\SdP 110 (zjX (zj2 n))/\SdP 112 (zhE (zmI n))/\SdP 188 (zk8 (zlv n))
 | 0=>⟨zbl call76 (λ_=>rfl),zbl call110 (λ_=>rfl),zbl call112 (λ_=>rfl),zbl call188 (λ_=>rfl)⟩
 | n+1=>by
  have ih:=zvc n;exact ⟨zSI _ (ih.2.1),zHf _ (ih.2.2.1),zLl _ _ (ih.1) (ih.2.2.2),zJ2 _ (ih.1)⟩
def zJ6:yB->yB->Bool×Int:=zox 1000
def zIg:Ab.Spec ty:=zey zJ6
theorem zXc:SdP 76 zIg:=(zvc 1000).1
def zlr:yC->yC->Bool×Int:=zj2 1000
def zqb:Ab.Spec ty:=zjX zlr
theorem zxv:SdP 110 zqb:=(zvc 1000).2.1
def zlO:At->At->Bool×Int:=zmI 1000
def zuO:Ab.Spec ty:=zhE zlO
theorem zBe:SdP 112 zuO:=(zvc 1000).2.2.1
def zue:yD->yD->Bool×Int:=zlv 1000
def zsR:Ab.Spec ty:=zk8 zue
theorem zzI:SdP 188 zsR:=(zvc 1000).2.2.2
def zbal:=zbp base 9 [(76,zIg)]
def zYE (a:yB) (b:yB):Wy0 (Bool):=.bn (zJ6 a b) λr0=>.k (r0==0)
def zp1 (a:yB) (b:yB):=(zYE a b).fin default
def zze:=zh zTO λx=>((zp1 x.1 x.2.1).1,zXz (zp1 x.1 x.2.1).2)
theorem zC4:SdP 33 zze:=
 sT (cx':=zbal) (zi ⟨zXc,trivial⟩) call33 func33 (lOK aN)
abbrev ztL:=yF×yF×Int×Unit
def zpH (a:yF) (b:yF) (i:Int):Wy ztL Unit (Bool⊕Unit):=.i (decide (i<Int.ofNat a.length)) (.ix i a.length (.ix i b.length (.bn (zFt (a.getD i.toNat default).Values (b.getD i.toNat default).Values) λr1=>.i (!r1) (.k (.inl false)) (.ix i a.length (.ix i b.length (.bn (zp1 (a.getD i.toNat default).Ann (b.getD i.toNat default).Ann) λr0=>.i (!r0) (.k (.inl false)) (.h (a,b,(IntKind.i64.wrap (i+1)),()) ()))))))) (.k (.inr ()))
def zBE (x:ztL) (y:Unit):=zpH x.1 x.2.1 x.2.2.1
def zKL (n:Nat) (a:yF) (b:yF) (i:Int):=zy (zBE) (.inl default) n (a,b,i,()) ()
def z1B:LL ty ztL:=za (lSl 54) (za (lSl 54) (za zj zk))
def zYt (x:ztL) (y:Unit):Nat:=(x.1.length+x.2.1.length+Int.toNat x.2.2.1+1)
def zKZ:=zbV base 43 [(31,zPu),(33,zze)] [] [(4,(kpL [0,1,5]))] [(4,1,[]),(4,0,(kpL [4]))] [(4,spW z1B zbaJ (zBE) (.inl default) znV zYt)] []
theorem zZl:zC zKZ (lp (body f24) 0):=zn (id:=4) (hl:=rfl)
def zME (a:yF) (b:yF):Wy0 (Bool):=.i (Int.ofNat a.length != Int.ofNat b.length) (.k false) (.bn (zKL (a.length+b.length+Int.toNat 0+1) a b 0) λr4=>.i (isL r4) (.k (getL r4)) (.k true))
def zvo (a:yF) (b:yF):=(zME a b).fin default
def z3N:AL base (yF×yF×Unit):=zd (ze (vSl 54)) (zd (ze (vSl 54)) zp)
def zGz:=zh z3N λx=>((zvo x.1 x.2.1).1,zXz (zvo x.1 x.2.1).2)
theorem zTq:SdP 24 zGz:=
 sT (cx':=zKZ) (zi ⟨z3z,zC4,trivial⟩) call24 func24 (lOK (aC zZl aN))
def zba5:=zbp base 17 [(23,zCd),(24,zGz)]
def z0k (a:Relation) (b:Relation):Wy0 (Bool):=.bn (zpF a.Columns b.Columns) λr1=>.i (r1) (.bn (zvo a.Rows b.Rows) λr0=>.k r0) (.k false)
def zE9 (a:Relation) (b:Relation):=(z0k a b).fin default
def zPR:=zh z4E λx=>((zE9 x.1 x.2.1).1,zXz (zE9 x.1 x.2.1).2)
theorem z3M:SdP 17 zPR:=
 sT (cx':=zba5) (zi ⟨zOn,zTq,trivial⟩) call17 func17 (lOK aN)
def zbaz:=zbp base 17 [(17,zPR)]
def zYb (a:Relation) (e:Int) (b:Relation) (f:Int):Wy0 (Bool):=.i (e==f) (.bn (zE9 a b) λr0=>.k r0) (.k false)
def zAM (a:Relation) (e:Int) (b:Relation) (f:Int):=(zYb a e b f).fin default
def zbdv:AL base (Relation×Int×Relation×Int×Unit):=zd (ze (zb7 25)) (zd (ze zeZ) (zd (ze (zb7 25)) (zd (ze zeZ) zp)))
def zPl:=zh zbdv λx=>((zAM x.1 x.2.1 x.2.2.1 x.2.2.2.1).1,zXz (zAM x.1 x.2.1 x.2.2.1 x.2.2.2.1).2)
theorem z2Y:SdP 25 zPl:=
 sT (cx':=zbaz) (zi ⟨z3M,trivial⟩) call25 func25 (lOK aN)
def z7B:AL base (yB×Int×Int×Unit):=zd (ze (vSl 107)) (zd (ze (zgS .i64)) (zd (ze (zgS .i64)) zp))
def zvj (F:yB->Int->Int->Bool×Int):Ab.Spec ty:=zh z7B λx=>((F x.1 x.2.1 x.2.2.1).1,zQ3 (F x.1 x.2.1 x.2.2.1).2)
abbrev zjD:=yB×Int×Int×Int×Int×Int×Unit×Int×Unit
abbrev zPH:=yB×Int×Int×Int×Int×Int×At
abbrev zPL:=yB×Int×Int×Int×Int×Int
abbrev zy5:=yB×Int×Int×Int×Int×Int×Unit
abbrev zPw:=yB×Int×Int×Int×Int
abbrev zza:=yB×Int×Int×Int×Int×Unit
def zzW (zJ:yB->Int->Int->Bool×Int) (a:yB) (limit:Int) (zdh:Int) (n_:Int) (i:Int) (k:Int) (j:Int) (x_:At):Wy zjD (At×Unit) zPH:=.i (decide (j<Int.ofNat x_.Ag.length)) (.i (decide (n_<=limit)) (.ix j x_.Ag.length (.bn (zJ (x_.Ag.getD j.toNat default) (IntKind.i64.wrap (limit - n_)) (IntKind.i64.wrap (zdh - 1))) λr0=>.h (a,limit,zdh,(IntKind.i64.wrap (n_+r0)),i,k,(),(IntKind.i64.wrap (j+1)),()) (x_,()))) (.k (a,limit,zdh,n_,i,k,x_))) (.k (a,limit,zdh,n_,i,k,x_))
def zJo (zJ:yB->Int->Int->Bool×Int) (x:zjD) (y:At×Unit):=zzW zJ x.1 x.2.1 x.2.2.1 x.2.2.2.1 x.2.2.2.2.1 x.2.2.2.2.2.1 x.2.2.2.2.2.2.2.1 y.1
def zzE (zJ:yB->Int->Int->Bool×Int) (n:Nat) (a:yB) (limit:Int) (zdh:Int) (n_:Int) (i:Int) (k:Int) (j:Int) (x_:At):=zy (zJo zJ) default n (a,limit,zdh,n_,i,k,(),j,()) (x_,())
def zWs (r:zPH):LTree ty:=.done (.exit 4) [.sl 107 r.1,.lit (.int .i64 r.2.1),.lit (.int .i64 r.2.2.1),.lit (.int .i64 r.2.2.2.1),.lit (.int .i64 r.2.2.2.2.1),.lit (.int .i64 r.2.2.2.2.2.1),.ptr 544 0] [.box (base.enc 143 r.2.2.2.2.2.2) false]
def zYL:LL ty zjD:=za (lSl 107) (za zj (za zj (za zj (za zj (za zj (za (zcm 544 0) (za zj zk)))))))
def zZf:BL ty (At×Unit):=zdx (zdi (λx=>(⟨x.1,⟨x.2.1,x.2.2.1⟩,x.2.2.2.1,x.2.2.2.2.1,x.2.2.2.2.2.1,x.2.2.2.2.2.2.1,⟨x.2.2.2.2.2.2.2.1,x.2.2.2.2.2.2.2.2.1,x.2.2.2.2.2.2.2.2.2.1⟩⟩:At)) (λx=>(x.Kind,x.Row.Table,x.Row.Seq,x.Ag,x.Func,x.Items,x.Op,x.Bd.Kind,x.Bd.Int,x.Bd.Text,())) (λ_=>rfl) (za (zL .i64) (za (zL .i64) (za (zL .i64) (za (lSl 51) (za (zL .i64) (za (lSl 169) (za (zL .i64) (za (zL .i64) (za (zL .i64) (za zoZ zk))))))))))) false (zY)
def zzZ (zJ:yB->Int->Int->Bool×Int) (a:yB) (limit:Int) (zdh:Int) (n_:Int) (i:Int) (k:Int) (j:Int) (x_:At):Wy zjD (At×Unit) zPL:=.i (decide (j<Int.ofNat x_.Items.length)) (.i (decide (n_<=limit)) (.ix j x_.Items.length (.ix j x_.Items.length (.bn (zJ (x_.Items.getD j.toNat default).Ann (IntKind.i64.wrap (limit - n_)) (IntKind.i64.wrap (zdh - 1))) λr2=>.h (a,limit,zdh,(IntKind.i64.wrap (IntKind.i64.wrap (n_+Int.ofNat (x_.Items.getD j.toNat default).Value.Text.size)+r2)),i,k,(),(IntKind.i64.wrap (j+1)),()) (x_,())))) (.k (a,limit,zdh,n_,i,k))) (.k (a,limit,zdh,n_,i,k))
def zIG (zJ:yB->Int->Int->Bool×Int) (x:zjD) (y:At×Unit):=zzZ zJ x.1 x.2.1 x.2.2.1 x.2.2.2.1 x.2.2.2.2.1 x.2.2.2.2.2.1 x.2.2.2.2.2.2.2.1 y.1
def zzq (zJ:yB->Int->Int->Bool×Int) (n:Nat) (a:yB) (limit:Int) (zdh:Int) (n_:Int) (i:Int) (k:Int) (j:Int) (x_:At):=zy (zIG zJ) default n (a,limit,zdh,n_,i,k,(),j,()) (x_,())
def zXt (r:zPL):LTree ty:=.done (.exit 6) [.sl 107 r.1,.lit (.int .i64 r.2.1),.lit (.int .i64 r.2.2.1),.lit (.int .i64 r.2.2.2.1),.lit (.int .i64 r.2.2.2.2.1),.lit (.int .i64 r.2.2.2.2.2)] []
def zBo (zJ:yB->Int->Int->Bool×Int) (a:yB) (limit:Int) (zdh:Int) (n_:Int) (i:Int) (k:Int):Wy zy5 Unit zPw:=.ix i a.length (.i (decide (k<Int.ofNat (a.getD i.toNat default).Fs.length)) (.i (decide (n_<=limit)) (.ix i a.length (.ix k ((a.getD i.toNat default).Fs.length) (.bn (zzE zJ (a.length+limit.toNat +zdh.toNat +(IntKind.i64.wrap (IntKind.i64.wrap (IntKind.i64.wrap (n_+Int.ofNat ((a.getD i.toNat default).Fs.getD k.toNat default).At.Items.length)+Int.ofNat ((a.getD i.toNat default).Fs.getD k.toNat default).At.Ag.length)+Int.ofNat ((a.getD i.toNat default).Fs.getD k.toNat default).At.Bd.Text.size)).toNat +i.toNat +k.toNat +Int.toNat 0+((a.getD i.toNat default).Fs.getD k.toNat default).At.Ag.length+((a.getD i.toNat default).Fs.getD k.toNat default).At.Items.length+1) a limit zdh (IntKind.i64.wrap (IntKind.i64.wrap (IntKind.i64.wrap (n_+Int.ofNat ((a.getD i.toNat default).Fs.getD k.toNat default).At.Items.length)+Int.ofNat ((a.getD i.toNat default).Fs.getD k.toNat default).At.Ag.length)+Int.ofNat ((a.getD i.toNat default).Fs.getD k.toNat default).At.Bd.Text.size)) i k 0 (At.et (((a.getD i.toNat default).Fs.getD k.toNat default).At))) λr5=>.bn (zzq zJ (r5.1.length+r5.2.1.toNat +r5.2.2.1.toNat +r5.2.2.2.1.toNat +r5.2.2.2.2.1.toNat +r5.2.2.2.2.2.1.toNat +Int.toNat 0+r5.2.2.2.2.2.2.Ag.length+r5.2.2.2.2.2.2.Items.length+1) r5.1 r5.2.1 r5.2.2.1 r5.2.2.2.1 r5.2.2.2.2.1 r5.2.2.2.2.2.1 0 (At.et r5.2.2.2.2.2.2)) λr4=>.h ((r4.1),(r4.2.1),(r4.2.2.1),(r4.2.2.2.1),(r4.2.2.2.2.1),(IntKind.i64.wrap (r4.2.2.2.2.2+1)),()) ()))) (.k (a,limit,zdh,n_,i))) (.k (a,limit,zdh,n_,i)))
def zKE (zJ:yB->Int->Int->Bool×Int) (x:zy5) (y:Unit):=zBo zJ x.1 x.2.1 x.2.2.1 x.2.2.2.1 x.2.2.2.2.1 x.2.2.2.2.2.1
def zBC (zJ:yB->Int->Int->Bool×Int) (n:Nat) (a:yB) (limit:Int) (zdh:Int) (n_:Int) (i:Int) (k:Int):=zy (zKE zJ) default n (a,limit,zdh,n_,i,k,()) ()
def zYa (r:zPw):LTree ty:=.done (.exit 2) [.sl 107 r.1,.lit (.int .i64 r.2.1),.lit (.int .i64 r.2.2.1),.lit (.int .i64 r.2.2.2.1),.lit (.int .i64 r.2.2.2.2)] []
def z04:LL ty zy5:=za (lSl 107) (za zj (za zj (za zj (za zj (za zj zk)))))
def zBq (zJ:yB->Int->Int->Bool×Int) (a:yB) (limit:Int) (zdh:Int) (n_:Int) (i:Int):Wy zza Unit (Int):=.i (decide (i<Int.ofNat a.length)) (.i (decide (n_<=limit)) (.ix i a.length (.bn (zBC zJ (a.length+limit.toNat +zdh.toNat +(IntKind.i64.wrap (IntKind.i64.wrap (n_+1)+Int.ofNat (a.getD i.toNat default).Fs.length)).toNat +i.toNat +Int.toNat 0+1) a limit zdh (IntKind.i64.wrap (IntKind.i64.wrap (n_+1)+Int.ofNat (a.getD i.toNat default).Fs.length)) i 0) λr8=>.h ((r8.1),(r8.2.1),(r8.2.2.1),(r8.2.2.2.1),(IntKind.i64.wrap (r8.2.2.2.2+1)),()) ())) (.k n_)) (.k n_)
def zKI (zJ:yB->Int->Int->Bool×Int) (x:zza) (y:Unit):=zBq zJ x.1 x.2.1 x.2.2.1 x.2.2.2.1 x.2.2.2.2.1
def zBp (zJ:yB->Int->Int->Bool×Int) (n:Nat) (a:yB) (limit:Int) (zdh:Int) (n_:Int) (i:Int):=zy (zKI zJ) default n (a,limit,zdh,n_,i,()) ()
def z1Q:LL ty zza:=za (lSl 107) (za zj (za zj (za zj (za zj zk))))
def zWd (x:zjD) (y:At×Unit):Nat:=(x.1.length+Int.toNat x.2.1+Int.toNat x.2.2.1+Int.toNat x.2.2.2.1+Int.toNat x.2.2.2.2.1+Int.toNat x.2.2.2.2.2.1+Int.toNat x.2.2.2.2.2.2.2.1+y.1.Ag.length+y.1.Items.length+1)
def zZq (x:zy5) (y:Unit):Nat:=(x.1.length+Int.toNat x.2.1+Int.toNat x.2.2.1+Int.toNat x.2.2.2.1+Int.toNat x.2.2.2.2.1+Int.toNat x.2.2.2.2.2.1+1)
def zXH (x:zza) (y:Unit):Nat:=(x.1.length+Int.toNat x.2.1+Int.toNat x.2.2.1+Int.toNat x.2.2.2.1+Int.toNat x.2.2.2.2.1+1)
def zpq (zJ:yB->Int->Int->Bool×Int):=zbV base 136 [(79,(zvj zJ))] [] [(5,(kpL [0,1,2,7,8])),(9,(kpL [0,1,2,7,8,9])),(14,(kpL [0,1,2,7,8,9,10,11])),(18,(kpL [0,1,2,7,8,9,10,12]))] [(5,1,(kpL [7])),(9,3,(kpL [0,1,2,7,8])),(14,5,(kpL [0,1,2,7,8,9,10])),(18,7,(kpL [0,1,2,7,8,9]))] [(14,spW zYL zZf (zJo zJ) default zWs zWd),(18,spW zYL zZf (zIG zJ) default zXt zWd),(9,spW z04 zbaJ (zKE zJ) default zYa zZq),(5,spW z1Q zbaJ (zKI zJ) default zR8 zXH)] []
theorem zWM (zJ:yB->Int->Int->Bool×Int):zC (zpq zJ) (lp (body f79) 2):=zn (id:=14) (hl:=rfl)
theorem zXm (zJ:yB->Int->Int->Bool×Int):zC (zpq zJ) (lp (body f79) 3):=zn (id:=18) (hl:=rfl)
theorem z0v (zJ:yB->Int->Int->Bool×Int):zC (zpq zJ) (lp (body f79) 1):=zn (id:=9) (hl:=rfl)
theorem zYC (zJ:yB->Int->Int->Bool×Int):zC (zpq zJ) (lp (body f79) 0):=zn (id:=5) (hl:=rfl)
def zCV (zJ:yB->Int->Int->Bool×Int) (a:yB) (limit:Int) (zdh:Int):Wy0 (Int):=.i (zdh==0) (.k (IntKind.i64.wrap (limit+1))) (.bn (zBp zJ (a.length+limit.toNat +zdh.toNat +Int.toNat 0+Int.toNat 0+1) a limit zdh 0 0) λr10=>.k r10)
def zvC (zJ:yB->Int->Int->Bool×Int) (a:yB) (limit:Int) (zdh:Int):=(zCV zJ a limit zdh).fin default
theorem zVk (zJ:yB->Int->Int->Bool×Int) (z4H:SdP 79 (zvj zJ)):SdP 79 (zvj (zvC zJ)):=
 sT (cx':=(zpq zJ)) (zi ⟨z4H,trivial⟩) call79 func79 (lOK (aC (zYC zJ) (aC (z0v zJ) (aC (zWM zJ) (aC (zXm zJ) aN)))))
def z2K:Nat->(yB->Int->Int->Bool×Int)
 | 0=>λ_ _ _=>(false,default)
 | n+1=>zvC (z2K n)
def zq3 (n:Nat):yB->Int->Int->Bool×Int:=z2K n
theorem zKU (n:Nat):zq3 (n+1)=zvC (zq3 n):=rfl
theorem zVy:∀ n,SdP 79 (zvj (zq3 n))
 | 0=>zbl call79 (λ_=>rfl)
 | n+1=>by
  have ih:=zVy n;exact zVk _ (ih)
def zND:yB->Int->Int->Bool×Int:=zq3 1000
def zKM:Ab.Spec ty:=zvj zND
theorem zZd:SdP 79 zKM:=(zVy 1000)
abbrev zEE:=Int×yA×Int×Unit
def zNh (limit:Int) (l:yA) (i:Int):Wy zEE Unit (Bool⊕Unit):=.i (decide (i<Int.ofNat l.length)) (.ix i l.length (.bn (zND (l.getD i.toNat default) limit 12) λr0=>.i (decide (r0>limit)) (.k (.inl false)) (.h (limit,l,(IntKind.i64.wrap (i+1)),()) ()))) (.k (.inr ()))
def z0x (x:zEE) (y:Unit):=zNh x.1 x.2.1 x.2.2.1
def zOa (n:Nat) (limit:Int) (l:yA) (i:Int):=zy (z0x) (.inl default) n (limit,l,i,()) ()
def zbch:LL ty zEE:=za zj (za (lSl 51) (za zj zk))
def zbaO (x:zEE) (y:Unit):Nat:=(Int.toNat x.1+x.2.1.length+Int.toNat x.2.2.1+1)
def zYF:=zbV base 20 [(79,zKM)] [] [(2,(kpL [0,1,5]))] [(2,1,[]),(2,0,(kpL [4]))] [(2,spW zbch zbaJ (z0x) (.inl default) znV zbaO)] []
theorem zbbh:zC zYF (lp (body f36) 0):=zn (id:=2) (hl:=rfl)
def z2X (limit:Int) (l:yA):Wy0 (Bool):=.bn (zOa (limit.toNat +l.length+Int.toNat 0+1) limit l 0) λr2=>.i (isL r2) (.k (getL r2)) (.k true)
def zwo (limit:Int) (l:yA):=(z2X limit l).fin default
def zbeD:AL base (Int×yA×Unit):=zd (ze zeZ) (zd (ze (vSl 51)) zp)
def zHE:=zh zbeD λx=>((zwo x.1 x.2.1).1,zXz (zwo x.1 x.2.1).2)
theorem zPy:SdP 36 zHE:=
 sT (cx':=zYF) (zi ⟨zZd,trivial⟩) call36 func36 (lOK (aC zbbh aN))
abbrev zAE:=yG×Int×Int×Unit
abbrev zSW:=Bool⊕(yG×Int)
def zHQ (l:yG) (n_:Int) (i:Int):Wy zAE Unit zSW:=.i (decide (i<Int.ofNat l.length)) (.ix i l.length (.i (decide (Int.ofNat (l.getD i.toNat default).Text.size>300)) (.k (.inl false)) (.h (l,n_,(IntKind.i64.wrap (i+1)),()) ()))) (.k (.inr (l,n_)))
def zSt (x:zAE) (y:Unit):=zHQ x.1 x.2.1 x.2.2.1
def zHz (n:Nat) (l:yG) (n_:Int) (i:Int):=zy (zSt) (.inl default) n (l,n_,i,()) ()
def z5f (r:zSW):LTree ty:=.ite (isL r) (.done .ret [.lit (.bool (getL r))] []) (.done (.exit 0) [.sl 79 (getR r).1,.lit (.int .i64 (getR r).2)] [])
def z7V:LL ty zAE:=za (lSl 79) (za zj (za zj zk))
def z6b (x:zAE) (y:Unit):Nat:=(x.1.length+Int.toNat x.2.1+Int.toNat x.2.2.1+1)
def zR1:=zbV base 23 [] [] [(2,(kpL [0,1,5]))] [(2,1,(kpL [0,1])),(2,0,(kpL [4]))] [(2,spW z7V zbaJ (zSt) (.inl default) z5f z6b)] []
theorem z6l:zC zR1 (lp (body f18) 0):=zn (id:=2) (hl:=rfl)
def zV3 (l:yG) (n_:Int):Wy0 (Bool):=.bn (zHz (l.length+n_.toNat +Int.toNat 0+1) l n_ 0) λr0=>.i (isL r0) (.k (getL r0)) (.k (decide (Int.ofNat (getR r0).1.length<=(getR r0).2)))
def zym (l:yG) (n_:Int):=(zV3 l n_).fin default
def zbaU:AL base (yG×Int×Unit):=zd (ze (vSl 79)) (zd (ze zeZ) zp)
def zNm:=zh zbaU λx=>((zym x.1 x.2.1).1,zXz (zym x.1 x.2.1).2)
theorem z2c:SdP 18 zNm:=
 sT (cx':=zR1) (zi trivial) call18 func18 (lOK (aC z6l aN))
abbrev znt:=Int×Int×List Relation×Int×Int×Unit
abbrev zE1:=Bool⊕(Int×Int×List Relation×Int)
abbrev zFi:=Int×Int×List Relation×Int×Unit
def zNW (rows:Int) (weight:Int) (l:List Relation) (i:Int) (k:Int):Wy znt Unit zE1:=.ix i l.length (.i (decide (k<Int.ofNat (l.getD i.toNat default).Columns.length)) (.ix i l.length (.ix k ((l.getD i.toNat default).Columns.length) (.i (decide (Int.ofNat ((l.getD i.toNat default).Columns.getD k.toNat default).Name.size>100)) (.k (.inl false)) (.h (rows,weight,l,i,(IntKind.i64.wrap (k+1)),()) ())))) (.k (.inr (rows,weight,l,i))))
def zMP (x:znt) (y:Unit):=zNW x.1 x.2.1 x.2.2.1 x.2.2.2.1 x.2.2.2.2.1
def zZI (n:Nat) (rows:Int) (weight:Int) (l:List Relation) (i:Int) (k:Int):=zy (zMP) (.inl default) n (rows,weight,l,i,k,()) ()
def zbaI (r:zE1):LTree ty:=.ite (isL r) (.done .ret [.lit (.bool (getL r))] []) (.done (.exit 2) [.lit (.int .i64 (getR r).1),.lit (.int .i64 (getR r).2.1),.sl 25 (getR r).2.2.1,.lit (.int .i64 (getR r).2.2.2)] [])
def zbee:LL ty znt:=za zj (za zj (za (lSl 25) (za zj (za zj zk))))
def zKs (rows:Int) (weight:Int) (l:List Relation) (i:Int) (k:Int):Wy znt Unit zE1:=.ix i l.length (.i (decide (k<Int.ofNat (l.getD i.toNat default).Rows.length)) (.ix i l.length (.ix k ((l.getD i.toNat default).Rows.length) (.bn (zym ((l.getD i.toNat default).Rows.getD k.toNat default).Values 20) λr1=>.i (!r1) (.k (.inl false)) (.ix i l.length (.ix k ((l.getD i.toNat default).Rows.length) (.bn (zwo weight [((l.getD i.toNat default).Rows.getD k.toNat default).Ann]) λr0=>.i (!r0) (.k (.inl false)) (.h (rows,weight,l,i,(IntKind.i64.wrap (k+1)),()) ()))))))) (.k (.inr (rows,weight,l,i))))
def zJU (x:znt) (y:Unit):=zKs x.1 x.2.1 x.2.2.1 x.2.2.2.1 x.2.2.2.2.1
def zVE (n:Nat) (rows:Int) (weight:Int) (l:List Relation) (i:Int) (k:Int):=zy (zJU) (.inl default) n (rows,weight,l,i,k,()) ()
def z8m (r:zE1):LTree ty:=.ite (isL r) (.done .ret [.lit (.bool (getL r))] []) (.done (.exit 4) [.lit (.int .i64 (getR r).1),.lit (.int .i64 (getR r).2.1),.sl 25 (getR r).2.2.1,.lit (.int .i64 (getR r).2.2.2)] [])
def zNb (rows:Int) (weight:Int) (l:List Relation) (i:Int):Wy zFi Unit (Bool⊕Unit):=.i (decide (i<Int.ofNat l.length)) (.ix i l.length (.i (decide (Int.ofNat (l.getD i.toNat default).Rows.length>rows)) (.k (.inl false)) (.ix i l.length (.i (decide (Int.ofNat (l.getD i.toNat default).Columns.length>20)) (.k (.inl false)) (.bn (zZI (rows.toNat +weight.toNat +l.length+i.toNat +Int.toNat 0+1000) rows weight l i 0) λr5=>.i (isL r5) (.k (.inl (getL r5))) (.bn (zVE ((getR r5).1.toNat +(getR r5).2.1.toNat +(getR r5).2.2.1.length+(getR r5).2.2.2.toNat +Int.toNat 0+1000) (getR r5).1 (getR r5).2.1 (getR r5).2.2.1 (getR r5).2.2.2 0) λr4=>.i (isL r4) (.k (.inl (getL r4))) (.h ((getR r4).1,(getR r4).2.1,(getR r4).2.2.1,(IntKind.i64.wrap ((getR r4).2.2.2+1)),()) ()))))))) (.k (.inr ()))
def zNP (x:zFi) (y:Unit):=zNb x.1 x.2.1 x.2.2.1 x.2.2.2.1
def zZE (n:Nat) (rows:Int) (weight:Int) (l:List Relation) (i:Int):=zy (zNP) (.inl default) n (rows,weight,l,i,()) ()
def zbea:LL ty zFi:=za zj (za zj (za (lSl 25) (za zj zk)))
def zbaG (x:znt) (y:Unit):Nat:=(Int.toNat x.1+Int.toNat x.2.1+x.2.2.1.length+Int.toNat x.2.2.2.1+Int.toNat x.2.2.2.2.1+1000)
def zbaP (x:zFi) (y:Unit):Nat:=(Int.toNat x.1+Int.toNat x.2.1+x.2.2.1.length+Int.toNat x.2.2.2.1+1000)
def zFy:=zbV base 90 [(18,zNm),(36,zHE)] [] [(2,(kpL [0,1,2,7])),(7,(kpL [0,1,2,7,8])),(12,(kpL [0,1,2,7,9]))] [(2,1,[]),(2,0,(kpL [6])),(7,3,(kpL [0,1,2,7])),(7,0,(kpL [6])),(12,5,(kpL [0,1,2,7])),(12,0,(kpL [6]))] [(7,spW zbee zbaJ (zMP) (.inl default) zbaI zbaG),(12,spW zbee zbaJ (zJU) (.inl default) z8m zbaG),(2,spW zbea zbaJ (zNP) (.inl default) znV zbaP)] []
theorem zbaN:zC zFy (lp (body f11) 1):=zn (id:=7) (hl:=rfl)
theorem z9a:zC zFy (lp (body f11) 2):=zn (id:=12) (hl:=rfl)
theorem zbaD:zC zFy (lp (body f11) 0):=zn (id:=2) (hl:=rfl)
def z2B (rows:Int) (weight:Int) (l:List Relation):Wy0 (Bool):=.bn (zZE (rows.toNat +weight.toNat +l.length+Int.toNat 0+1000) rows weight l 0) λr8=>.i (isL r8) (.k (getL r8)) (.k true)
def zD1 (rows:Int) (weight:Int) (l:List Relation):=(z2B rows weight l).fin default
def zbeP:AL base (Int×Int×List Relation×Unit):=zd (ze zeZ) (zd (ze zeZ) (zd (ze (vSl 25)) zp))
def zSK:=zh zbeP λx=>((zD1 x.1 x.2.1 x.2.2.1).1,zXz (zD1 x.1 x.2.1 x.2.2.1).2)
theorem z64:SdP 11 zSK:=
 sT (cx':=zFy) (zi ⟨z2c,zPy,trivial⟩) call11 func11 (lOK (aC zbaD (aC zbaN (aC z9a aN))))
end Go.Proofs.YtoknknbmfmddbaaGreatDoor
/- What lies inside lists of terms and factors: fuel for loops. -/
namespace Go.Proofs.YtoknknbmfmddbaaGreatDoor
open Go.Proofs.Tryz
def zJW:yC->Nat
 | []=>0
 | f::r=>f.Exp.toNat +f.At.Ag.length+f.At.Items.length+1+zJW r
def zbP:yB->Nat
 | []=>0
 | t::r=>zJW t.Fs+1+zbP r
end Go.Proofs.YtoknknbmfmddbaaGreatDoor
namespace Go.Proofs.YtoknknbmfmddbaaGreatDoor
open Go Go.Ab
open Go.Proofs.Tryz
abbrev zit:=yB×Int×Int×Int×Unit×Int×Int×Unit
abbrev zNG:=yB×Int×Int×Int×Int×At
abbrev zNk:=yB×Int×Int×Int×Int
abbrev zwE:=yB×Int×Int×Int×Unit
abbrev zNT:=yB×Int×Int
abbrev zwU:=yB×Int×Int×Unit
def zmC (zF:yB->Bool×Int) (a:yB) (most:Int) (i:Int) (k:Int) (n_:Int) (j:Int) (x_:At):Wy zit (At×Unit) zNG:=.i (decide (j<Int.ofNat x_.Ag.length)) (.ix j x_.Ag.length (.bn (zF (x_.Ag.getD j.toNat default)) λr0=>.h (a,most,i,k,(),(if IntKind.i64.wrap (1+r0)>n_ then IntKind.i64.wrap (1+r0) else n_),(IntKind.i64.wrap (j+1)),()) (x_,()))) (.k (a,most,i,k,n_,x_))
def zyF (zF:yB->Bool×Int) (x:zit) (y:At×Unit):=zmC zF x.1 x.2.1 x.2.2.1 x.2.2.2.1 x.2.2.2.2.2.1 x.2.2.2.2.2.2.1 y.1
def zyG (zF:yB->Bool×Int) (n:Nat) (a:yB) (most:Int) (i:Int) (k:Int) (n_:Int) (j:Int) (x_:At):=zy (zyF zF) default n (a,most,i,k,(),n_,j,()) (x_,())
def zTR (r:zNG):LTree ty:=.done (.exit 4) [.sl 107 r.1,.lit (.int .i64 r.2.1),.lit (.int .i64 r.2.2.1),.lit (.int .i64 r.2.2.2.1),.ptr 300 0,.lit (.int .i64 r.2.2.2.2.1)] [.box (base.enc 143 r.2.2.2.2.2) false]
def zW7:LL ty zit:=za (lSl 107) (za zj (za zj (za zj (za (zcm 300 0) (za zj (za zj zk))))))
def zmL (zF:yB->Bool×Int) (a:yB) (most:Int) (i:Int) (k:Int) (n_:Int) (j:Int) (x_:At):Wy zit (At×Unit) zNk:=.i (decide (j<Int.ofNat x_.Items.length)) (.ix j x_.Items.length (.bn (zF (x_.Items.getD j.toNat default).Ann) λr2=>.h (a,most,i,k,(),(if IntKind.i64.wrap (1+r2)>n_ then IntKind.i64.wrap (1+r2) else n_),(IntKind.i64.wrap (j+1)),()) (x_,()))) (.k (a,most,i,k,n_))
def zyR (zF:yB->Bool×Int) (x:zit) (y:At×Unit):=zmL zF x.1 x.2.1 x.2.2.1 x.2.2.2.1 x.2.2.2.2.2.1 x.2.2.2.2.2.2.1 y.1
def zGM (zF:yB->Bool×Int) (n:Nat) (a:yB) (most:Int) (i:Int) (k:Int) (n_:Int) (j:Int) (x_:At):=zy (zyR zF) default n (a,most,i,k,(),n_,j,()) (x_,())
def zTv (r:zNk):LTree ty:=.done (.exit 6) [.sl 107 r.1,.lit (.int .i64 r.2.1),.lit (.int .i64 r.2.2.1),.lit (.int .i64 r.2.2.2.1),.lit (.int .i64 r.2.2.2.2)] []
def zn1 (zF:yB->Bool×Int) (a:yB) (most:Int) (i:Int) (k:Int):Wy zwE Unit zNT:=.ix i a.length (.i (decide (k<Int.ofNat (a.getD i.toNat default).Fs.length)) (.ix i a.length (.ix k ((a.getD i.toNat default).Fs.length) (.i (((a.getD i.toNat default).Fs.getD k.toNat default).At.Kind==0) (.h (a,most,i,(IntKind.i64.wrap (k+1)),()) ()) (.bn (zyG zF ((a.length+most.toNat +i.toNat +k.toNat +Int.toNat 1+Int.toNat 0+((a.getD i.toNat default).Fs.getD k.toNat default).At.Ag.length+((a.getD i.toNat default).Fs.getD k.toNat default).At.Items.length+1)+zbP a) a most i k 1 0 (At.et (((a.getD i.toNat default).Fs.getD k.toNat default).At))) λr5=>.bn (zGM zF ((r5.1.length+r5.2.1.toNat +r5.2.2.1.toNat +r5.2.2.2.1.toNat +r5.2.2.2.2.1.toNat +Int.toNat 0+r5.2.2.2.2.2.Ag.length+r5.2.2.2.2.2.Items.length+1)+zbP r5.1) r5.1 r5.2.1 r5.2.2.1 r5.2.2.2.1 r5.2.2.2.2.1 0 (At.et r5.2.2.2.2.2)) λr4=>.h ((r4.1),(if r4.2.2.2.2>r4.2.1 then r4.2.2.2.2 else r4.2.1),(r4.2.2.1),(IntKind.i64.wrap (r4.2.2.2.1+1)),()) ())))) (.k (a,most,i)))
def zzC (zF:yB->Bool×Int) (x:zwE) (y:Unit):=zn1 zF x.1 x.2.1 x.2.2.1 x.2.2.2.1
def zJm (zF:yB->Bool×Int) (n:Nat) (a:yB) (most:Int) (i:Int) (k:Int):=zy (zzC zF) default n (a,most,i,k,()) ()
def zXy (r:zNT):LTree ty:=.done (.exit 2) [.sl 107 r.1,.lit (.int .i64 r.2.1),.lit (.int .i64 r.2.2)] []
def zYP:LL ty zwE:=za (lSl 107) (za zj (za zj (za zj zk)))
def znZ (zF:yB->Bool×Int) (a:yB) (most:Int) (i:Int):Wy zwU Unit (Int):=.i (decide (i<Int.ofNat a.length)) (.bn (zJm zF ((a.length+most.toNat +i.toNat +Int.toNat 0+1)+zbP a) a most i 0) λr8=>.h ((r8.1),(r8.2.1),(IntKind.i64.wrap (r8.2.2+1)),()) ()) (.k most)
def zzH (zF:yB->Bool×Int) (x:zwU) (y:Unit):=znZ zF x.1 x.2.1 x.2.2.1
def zI5 (zF:yB->Bool×Int) (n:Nat) (a:yB) (most:Int) (i:Int):=zy (zzH zF) default n (a,most,i,()) ()
def zYI:LL ty zwU:=za (lSl 107) (za zj (za zj zk))
def zTx (x:zit) (y:At×Unit):Nat:=((x.1.length+Int.toNat x.2.1+Int.toNat x.2.2.1+Int.toNat x.2.2.2.1+Int.toNat x.2.2.2.2.2.1+Int.toNat x.2.2.2.2.2.2.1+y.1.Ag.length+y.1.Items.length+1)+zbP x.1)
def zXf (x:zwE) (y:Unit):Nat:=((x.1.length+Int.toNat x.2.1+Int.toNat x.2.2.1+Int.toNat x.2.2.2.1+1)+zbP x.1)
def zWT (x:zwU) (y:Unit):Nat:=((x.1.length+Int.toNat x.2.1+Int.toNat x.2.2.1+1)+zbP x.1)
def znX (zF:yB->Bool×Int):=zbV base 75 [(182,(zph zF))] [] [(3,(kpL [0,3,4])),(6,(kpL [0,3,4,5])),(12,(kpL [0,3,4,5,6,7,8])),(16,(kpL [0,3,4,5,6,7,9]))] [(3,1,(kpL [3])),(6,3,(kpL [0,3,4])),(12,5,(kpL [0,3,4,5,6,7])),(16,7,(kpL [0,3,4,5,7]))] [(12,spW zW7 zZf (zyF zF) default zTR zTx),(16,spW zW7 zZf (zyR zF) default zTv zTx),(6,spW zYP zbaJ (zzC zF) default zXy zXf),(3,spW zYI zbaJ (zzH zF) default zR8 zWT)] []
theorem zU4 (zF:yB->Bool×Int):zC (znX zF) (lp (body f182) 2):=zn (id:=12) (hl:=rfl)
theorem zUT (zF:yB->Bool×Int):zC (znX zF) (lp (body f182) 3):=zn (id:=16) (hl:=rfl)
theorem zWW (zF:yB->Bool×Int):zC (znX zF) (lp (body f182) 1):=zn (id:=6) (hl:=rfl)
theorem zXw (zF:yB->Bool×Int):zC (znX zF) (lp (body f182) 0):=zn (id:=3) (hl:=rfl)
def zKD (zF:yB->Bool×Int) (a:yB):Wy0 (Int):=.bn (zI5 zF ((a.length+Int.toNat 0+Int.toNat 0+1)+zbP a) a 0 0) λr10=>.k r10
def zzf (zF:yB->Bool×Int) (a:yB):=(zKD zF a).fin default
theorem zRB (zF:yB->Bool×Int) (z1n:SdP 182 (zph zF)):SdP 182 (zph (zzf zF)):=
 sT (cx':=(znX zF)) (zi ⟨z1n,trivial⟩) call182 func182 (lOK (aC (zXw zF) (aC (zWW zF) (aC (zU4 zF) (aC (zUT zF) aN)))))
def zYw:Nat->(yB->Bool×Int)
 | 0=>λ_=>(false,default)
 | n+1=>zzf (zYw n)
def zlb (n:Nat):yB->Bool×Int:=zYw n
theorem zZL (n:Nat):zlb (n+1)=zzf (zlb n):=rfl
theorem zRq:∀ n,SdP 182 (zph (zlb n))
 | 0=>zbl call182 (λ_=>rfl)
 | n+1=>by
  have ih:=zRq n;exact zRB _ (ih)
def zKm:yB->Bool×Int:=zlb 1000
def zJt:Ab.Spec ty:=zph zKm
theorem zXj:SdP 182 zJt:=(zRq 1000)
abbrev zlX:=yB×Int×Int×Int×Unit×Int×Unit
abbrev zVI:=yB×Int×Int×Int×At
abbrev zVS:=yB×Int×Int×Int
abbrev zCu:=yB×Int×Int×Int×Unit
abbrev zVL:=yB×Int×Int
abbrev zCF:=yB×Int×Int×Unit
def zrX (zS:yB->Bool×Int) (a:yB) (n_:Int) (i:Int) (k:Int) (j:Int) (x_:At):Wy zlX (At×Unit) zVI:=.i (decide (j<Int.ofNat x_.Ag.length)) (.ix j x_.Ag.length (.bn (zS (x_.Ag.getD j.toNat default)) λr0=>.h (a,(IntKind.i64.wrap (n_+r0)),i,k,(),(IntKind.i64.wrap (j+1)),()) (x_,()))) (.k (a,n_,i,k,x_))
def zCH (zS:yB->Bool×Int) (x:zlX) (y:At×Unit):=zrX zS x.1 x.2.1 x.2.2.1 x.2.2.2.1 x.2.2.2.2.2.1 y.1
def zNa (zS:yB->Bool×Int) (n:Nat) (a:yB) (n_:Int) (i:Int) (k:Int) (j:Int) (x_:At):=zy (zCH zS) default n (a,n_,i,k,(),j,()) (x_,())
def z1M (r:zVI):LTree ty:=.done (.exit 4) [.sl 107 r.1,.lit (.int .i64 r.2.1),.lit (.int .i64 r.2.2.1),.lit (.int .i64 r.2.2.2.1),.ptr 284 0] [.box (base.enc 143 r.2.2.2.2) false]
def z3D:LL ty zlX:=za (lSl 107) (za zj (za zj (za zj (za (zcm 284 0) (za zj zk)))))
def zrU (zS:yB->Bool×Int) (a:yB) (n_:Int) (i:Int) (k:Int) (j:Int) (x_:At):Wy zlX (At×Unit) zVS:=.i (decide (j<Int.ofNat x_.Items.length)) (.ix j x_.Items.length (.bn (zS (x_.Items.getD j.toNat default).Ann) λr2=>.h (a,(IntKind.i64.wrap (IntKind.i64.wrap (n_+1)+r2)),i,k,(),(IntKind.i64.wrap (j+1)),()) (x_,()))) (.k (a,n_,i,k))
def zCQ (zS:yB->Bool×Int) (x:zlX) (y:At×Unit):=zrU zS x.1 x.2.1 x.2.2.1 x.2.2.2.1 x.2.2.2.2.2.1 y.1
def zMx (zS:yB->Bool×Int) (n:Nat) (a:yB) (n_:Int) (i:Int) (k:Int) (j:Int) (x_:At):=zy (zCQ zS) default n (a,n_,i,k,(),j,()) (x_,())
def z0Z (r:zVS):LTree ty:=.done (.exit 6) [.sl 107 r.1,.lit (.int .i64 r.2.1),.lit (.int .i64 r.2.2.1),.lit (.int .i64 r.2.2.2)] []
def ztW (zS:yB->Bool×Int) (a:yB) (n_:Int) (i:Int) (k:Int):Wy zCu Unit zVL:=.ix i a.length (.i (decide (k<Int.ofNat (a.getD i.toNat default).Fs.length)) (.ix i a.length (.ix k ((a.getD i.toNat default).Fs.length) (.bn (zNa zS ((a.length+(IntKind.i64.wrap (n_+1)).toNat +i.toNat +k.toNat +Int.toNat 0+((a.getD i.toNat default).Fs.getD k.toNat default).At.Ag.length+((a.getD i.toNat default).Fs.getD k.toNat default).At.Items.length+1)+zbP a) a (IntKind.i64.wrap (n_+1)) i k 0 (At.et (((a.getD i.toNat default).Fs.getD k.toNat default).At))) λr5=>.bn (zMx zS ((r5.1.length+r5.2.1.toNat +r5.2.2.1.toNat +r5.2.2.2.1.toNat +Int.toNat 0+r5.2.2.2.2.Ag.length+r5.2.2.2.2.Items.length+1)+zbP r5.1) r5.1 r5.2.1 r5.2.2.1 r5.2.2.2.1 0 (At.et r5.2.2.2.2)) λr4=>.h ((r4.1),(r4.2.1),(r4.2.2.1),(IntKind.i64.wrap (r4.2.2.2+1)),()) ()))) (.k (a,n_,i)))
def zFw (zS:yB->Bool×Int) (x:zCu) (y:Unit):=ztW zS x.1 x.2.1 x.2.2.1 x.2.2.2.1
def zPQ (zS:yB->Bool×Int) (n:Nat) (a:yB) (n_:Int) (i:Int) (k:Int):=zy (zFw zS) default n (a,n_,i,k,()) ()
def z38 (r:zVL):LTree ty:=.done (.exit 2) [.sl 107 r.1,.lit (.int .i64 r.2.1),.lit (.int .i64 r.2.2)] []
def z5Z:LL ty zCu:=za (lSl 107) (za zj (za zj (za zj zk)))
def ztl (zS:yB->Bool×Int) (a:yB) (n_:Int) (i:Int):Wy zCF Unit (Int):=.i (decide (i<Int.ofNat a.length)) (.bn (zPQ zS ((a.length+(IntKind.i64.wrap (n_+1)).toNat +i.toNat +Int.toNat 0+1)+zbP a) a (IntKind.i64.wrap (n_+1)) i 0) λr8=>.h ((r8.1),(r8.2.1),(IntKind.i64.wrap (r8.2.2+1)),()) ()) (.k n_)
def zEZ (zS:yB->Bool×Int) (x:zCF) (y:Unit):=ztl zS x.1 x.2.1 x.2.2.1
def zPP (zS:yB->Bool×Int) (n:Nat) (a:yB) (n_:Int) (i:Int):=zy (zEZ zS) default n (a,n_,i,()) ()
def z6n:LL ty zCF:=za (lSl 107) (za zj (za zj zk))
def z13 (x:zlX) (y:At×Unit):Nat:=((x.1.length+Int.toNat x.2.1+Int.toNat x.2.2.1+Int.toNat x.2.2.2.1+Int.toNat x.2.2.2.2.2.1+y.1.Ag.length+y.1.Items.length+1)+zbP x.1)
def z4y (x:zCu) (y:Unit):Nat:=((x.1.length+Int.toNat x.2.1+Int.toNat x.2.2.1+Int.toNat x.2.2.2.1+1)+zbP x.1)
def z4x (x:zCF) (y:Unit):Nat:=((x.1.length+Int.toNat x.2.1+Int.toNat x.2.2.1+1)+zbP x.1)
def ztZ (zS:yB->Bool×Int):=zbV base 71 [(183,(zph zS))] [] [(3,(kpL [0,3,4])),(7,(kpL [0,3,4,5])),(12,(kpL [0,3,4,5,6,7])),(16,(kpL [0,3,4,5,6,8]))] [(3,1,(kpL [3])),(7,3,(kpL [0,3,4])),(12,5,(kpL [0,3,4,5,6])),(16,7,(kpL [0,3,4,5]))] [(12,spW z3D zZf (zCH zS) default z1M z13),(16,spW z3D zZf (zCQ zS) default z0Z z13),(7,spW z5Z zbaJ (zFw zS) default z38 z4y),(3,spW z6n zbaJ (zEZ zS) default zR8 z4x)] []
theorem z2g (zS:yB->Bool×Int):zC (ztZ zS) (lp (body f183) 2):=zn (id:=12) (hl:=rfl)
theorem z1F (zS:yB->Bool×Int):zC (ztZ zS) (lp (body f183) 3):=zn (id:=16) (hl:=rfl)
theorem z3i (zS:yB->Bool×Int):zC (ztZ zS) (lp (body f183) 1):=zn (id:=7) (hl:=rfl)
theorem z4t (zS:yB->Bool×Int):zC (ztZ zS) (lp (body f183) 0):=zn (id:=3) (hl:=rfl)
def zSN (zS:yB->Bool×Int) (a:yB):Wy0 (Int):=.bn (zPP zS ((a.length+Int.toNat 0+Int.toNat 0+1)+zbP a) a 0 0) λr10=>.k r10
def zFl (zS:yB->Bool×Int) (a:yB):=(zSN zS a).fin default
theorem zZD (zS:yB->Bool×Int) (z7I:SdP 183 (zph zS)):SdP 183 (zph (zFl zS)):=
 sT (cx':=(ztZ zS)) (zi ⟨z7I,trivial⟩) call183 func183 (lOK (aC (z4t zS) (aC (z3i zS) (aC (z2g zS) (aC (z1F zS) aN)))))
def z9v:Nat->(yB->Bool×Int)
 | 0=>λ_=>(false,default)
 | n+1=>zFl (z9v n)
def zvX (n:Nat):yB->Bool×Int:=z9v n
theorem z6Q (n:Nat):zvX (n+1)=zFl (zvX n):=rfl
theorem z2D:∀ n,SdP 183 (zph (zvX n))
 | 0=>zbl call183 (λ_=>rfl)
 | n+1=>by
  have ih:=z2D n;exact zZD _ (ih)
def zVg:yB->Bool×Int:=zvX 1000
def zPb:Ab.Spec ty:=zph zVg
theorem z2Z:SdP 183 zPb:=(z2D 1000)
abbrev zCy:=yB×Int×Int×Unit
abbrev zVZ:=Bool⊕(yB×Int)
abbrev zCx:=yB×Int×Unit
def zxY (a:yB) (i:Int) (k:Int):Wy zCy Unit zVZ:=.ix i a.length (.i (decide (k<Int.ofNat (a.getD i.toNat default).Fs.length)) (.ix i a.length (.ix k ((a.getD i.toNat default).Fs.length) (.i (decide (((a.getD i.toNat default).Fs.getD k.toNat default).Exp>64)) (.k (.inl false)) (.ix i a.length (.ix k ((a.getD i.toNat default).Fs.length) (.i (decide (Int.ofNat ((a.getD i.toNat default).Fs.getD k.toNat default).At.Items.length>1024)) (.k (.inl false)) (.h (a,i,(IntKind.i64.wrap (k+1)),()) ()))))))) (.k (.inr (a,i))))
def zJ8 (x:zCy) (y:Unit):=zxY x.1 x.2.1 x.2.2.1
def zVR (n:Nat) (a:yB) (i:Int) (k:Int):=zy (zJ8) (.inl default) n (a,i,k,()) ()
def z8T (r:zVZ):LTree ty:=.ite (isL r) (.done .ret [.lit (.bool (getL r))] []) (.done (.exit 2) [.sl 107 (getR r).1,.lit (.int .i64 (getR r).2)] [])
def zbaK:LL ty zCy:=za (lSl 107) (za zj (za zj zk))
def zxT (a:yB) (i:Int):Wy zCx Unit (Bool⊕Unit):=.i (decide (i<Int.ofNat a.length)) (.ix i a.length (.i (decide (Int.ofNat (a.getD i.toNat default).Fs.length>64)) (.k (.inl false)) (.bn (zVR ((a.length+i.toNat +Int.toNat 0+1)+zbP a) a i 0) λr0=>.i (isL r0) (.k (.inl (getL r0))) (.h ((getR r0).1,(IntKind.i64.wrap ((getR r0).2+1)),()) ())))) (.k (.inr ()))
def zKa (x:zCx) (y:Unit):=zxT x.1 x.2.1
def zVH (n:Nat) (a:yB) (i:Int):=zy (zKa) (.inl default) n (a,i,()) ()
def zbaR:LL ty zCx:=za (lSl 107) (za zj zk)
def z80 (x:zCy) (y:Unit):Nat:=((x.1.length+Int.toNat x.2.1+Int.toNat x.2.2.1+1)+zbP x.1)
def z8D (x:zCx) (y:Unit):Nat:=((x.1.length+Int.toNat x.2.1+1)+zbP x.1)
def zJ0:=zbV base 65 [(182,zJt),(183,zPb)] [] [(4,(kpL [0,3])),(9,(kpL [0,3,4]))] [(4,1,[]),(4,0,(kpL [2])),(9,3,(kpL [0,3])),(9,0,(kpL [2]))] [(9,spW zbaK zbaJ (zJ8) (.inl default) z8T z80),(4,spW zbaR zbaJ (zKa) (.inl default) znV z8D)] []
theorem z8l:zC zJ0 (lp (body f109) 1):=zn (id:=9) (hl:=rfl)
theorem z8E:zC zJ0 (lp (body f109) 0):=zn (id:=4) (hl:=rfl)
def zZJ (a:yB):Wy0 (Bool):=.i (decide (Int.ofNat a.length>512)) (.k false) (.bn (zKm a) λr4=>.i (decide (r4>8)) (.k false) (.bn (zVg a) λr3=>.i (decide (r3>4096)) (.k false) (.bn (zVH ((a.length+Int.toNat 0+1)+zbP a) a 0) λr2=>.i (isL r2) (.k (getL r2)) (.k true))))
def zAC (a:yB):=(zZJ a).fin default
def zFW:=zh zY9 λx=>((zAC x.1).1,zXz (zAC x.1).2)
theorem zMV:SdP 109 zFW:=
 sT (cx':=zJ0) (zi ⟨zXj,z2Z,trivial⟩) call109 func109 (lOK (aC z8E (aC z8l aN)))
abbrev zAu:=yB×Int×Unit×Int×Unit
abbrev zS1:=Bool⊕(yB×Int)
abbrev zAH:=yB×Int×Unit
def zpz (zW:At->Bool×Bool) (a:yB) (i:Int) (k:Int) (t:Term):Wy zAu (Term×Unit) zS1:=.i (decide (k<Int.ofNat t.Fs.length)) (.ix k t.Fs.length (.i (decide ((t.Fs.getD k.toNat default).Exp<1)) (.k (.inl false)) (.i (decide ((t.Fs.getD k.toNat default).Exp>1)) (.i (decide ((t.Fs.getD k.toNat default).At.Kind≥3)) (.k (.inl false)) (.bn (zW (At.et ((t.Fs.getD k.toNat default).At))) λr1=>.i (!r1) (.k (.inl false)) (.i (decide (k>0)) (.ix (IntKind.i64.wrap (k - 1)) t.Fs.length (.bn (zlO (At.et ((t.Fs.getD (IntKind.i64.wrap (k - 1)).toNat default).At)) (At.et ((t.Fs.getD k.toNat default).At))) λr0=>.i (decide (r0≥0)) (.k (.inl false)) (.h (a,i,(),(IntKind.i64.wrap (k+1)),()) (t,())))) (.h (a,i,(),(IntKind.i64.wrap (k+1)),()) (t,()))))) (.bn (zW (At.et ((t.Fs.getD k.toNat default).At))) λr3=>.i (!r3) (.k (.inl false)) (.i (decide (k>0)) (.ix (IntKind.i64.wrap (k - 1)) t.Fs.length (.bn (zlO (At.et ((t.Fs.getD (IntKind.i64.wrap (k - 1)).toNat default).At)) (At.et ((t.Fs.getD k.toNat default).At))) λr2=>.i (decide (r2≥0)) (.k (.inl false)) (.h (a,i,(),(IntKind.i64.wrap (k+1)),()) (t,())))) (.h (a,i,(),(IntKind.i64.wrap (k+1)),()) (t,()))))))) (.k (.inr (a,i)))
def zBO (zW:At->Bool×Bool) (x:zAu) (y:Term×Unit):=zpz zW x.1 x.2.1 x.2.2.2.1 y.1
def zBN (zW:At->Bool×Bool) (n:Nat) (a:yB) (i:Int) (k:Int) (t:Term):=zy (zBO zW) (.inl default) n (a,i,(),k,()) (t,())
def zY5 (r:zS1):LTree ty:=.ite (isL r) (.done .ret [.lit (.bool (getL r))] []) (.done (.exit 2) [.sl 107 (getR r).1,.lit (.int .i64 (getR r).2)] [])
def z1h:LL ty zAu:=za (lSl 107) (za zj (za (zcm 372 0) (za zj zk)))
def zrx (zW:At->Bool×Bool) (a:yB) (i:Int):Wy zAH Unit (Bool⊕Unit):=.i (decide (i<Int.ofNat a.length)) (.ix i a.length (.i (decide ((a.getD i.toNat default).Cf<1)) (.k (.inl false)) (.i (decide ((a.getD i.toNat default).Cf>1152921504606846976)) (.k (.inl false)) (.i (decide (i>0)) (.ix (IntKind.i64.wrap (i - 1)) a.length (.bn (zlr (a.getD (IntKind.i64.wrap (i - 1)).toNat default).Fs (a.getD i.toNat default).Fs) λr9=>.i (decide (r9≥0)) (.k (.inl false)) (.bn (zBN zW ((a.length+i.toNat +Int.toNat 0+(a.getD i.toNat default).Fs.length+1)+zbP a) a i 0 (a.getD i.toNat default)) λr8=>.i (isL r8) (.k (.inl (getL r8))) (.h ((getR r8).1,(IntKind.i64.wrap ((getR r8).2+1)),()) ())))) (.bn (zBN zW ((a.length+i.toNat +Int.toNat 0+(a.getD i.toNat default).Fs.length+1)+zbP a) a i 0 (a.getD i.toNat default)) λr10=>.i (isL r10) (.k (.inl (getL r10))) (.h ((getR r10).1,(IntKind.i64.wrap ((getR r10).2+1)),()) ())))))) (.k (.inr ()))
def zC3 (zW:At->Bool×Bool) (x:zAH) (y:Unit):=zrx zW x.1 x.2.1
def zNH (zW:At->Bool×Bool) (n:Nat) (a:yB) (i:Int):=zy (zC3 zW) (.inl default) n (a,i,()) ()
def z4D:LL ty zAH:=za (lSl 107) (za zj zk)
def zX3 (x:zAu) (y:Term×Unit):Nat:=((x.1.length+Int.toNat x.2.1+Int.toNat x.2.2.2.1+y.1.Fs.length+1)+zbP x.1)
def z1Z (x:zAH) (y:Unit):Nat:=((x.1.length+Int.toNat x.2.1+1)+zbP x.1)
def zDd (zW:At->Bool×Bool):=zbV base 93 [(109,zFW),(110,zqb),(111,(znj zW)),(112,zuO)] [] [(4,(kpL [0,3])),(10,(kpL [0,3,4,5]))] [(4,1,[]),(4,0,(kpL [2])),(10,3,(kpL [0,3])),(10,0,(kpL [2]))] [(10,spW z1h zS3 (zBO zW) (.inl default) zY5 zX3),(4,spW z4D zbaJ (zC3 zW) (.inl default) znV z1Z)] []
theorem z0t (zW:At->Bool×Bool):zC (zDd zW) (lp (body f56) 1):=zn (id:=10) (hl:=rfl)
theorem z09 (zW:At->Bool×Bool):zC (zDd zW) (lp (body f56) 0):=zn (id:=4) (hl:=rfl)
def zO7 (zW:At->Bool×Bool) (a:yB):Wy0 (Bool):=.bn (zAC a) λr15=>.i (!r15) (.k false) (.bn (zNH zW ((a.length+Int.toNat 0+1)+zbP a) a 0) λr14=>.i (isL r14) (.k (getL r14)) (.k true))
def zx2 (zW:At->Bool×Bool) (a:yB):=(zO7 zW a).fin default
theorem zWq (zW:At->Bool×Bool) (zWv:SdP 111 (znj zW)):SdP 56 (ziu (zx2 zW)):=
 sT (cx':=(zDd zW)) (zi ⟨zMV,zxv,zWv,zBe,trivial⟩) call56 func56 (lOK (aC (z09 zW) (aC (z0t zW) aN)))
def z6F:=zbp base 42 []
def zRK (a:yB):Wy0 (Bool):=.i (Int.ofNat a.length==1) (.ix 0 a.length (.i ((a.getD (Int.toNat 0) default).Cf==1) (.ix 0 a.length (.i (Int.ofNat (a.getD (Int.toNat 0) default).Fs.length==1) (.ix 0 a.length (.ix 0 ((a.getD (Int.toNat 0) default).Fs.length) (.i (decide (((a.getD (Int.toNat 0) default).Fs.getD (Int.toNat 0) default).At.Kind≥2)) (.ix 0 a.length (.ix 0 ((a.getD (Int.toNat 0) default).Fs.length) (.k (((a.getD (Int.toNat 0) default).Fs.getD (Int.toNat 0) default).Exp==1)))) (.k false)))) (.k false))) (.k false))) (.k false)
def zrt (a:yB):=(zRK a).fin default
def zBs:=zh zY9 λx=>((zrt x.1).1,zXz (zrt x.1).2)
theorem zIl:SdP 186 zBs:=
 sT (cx':=z6F) (zi trivial) call186 func186 (lOK aN)
abbrev zBx:=yB×Int×Unit
def zpE (a:yB) (i:Int):Wy zBx Unit (Bool⊕Unit):=.i (decide (i<Int.ofNat a.length)) (.ix i a.length (.i (Int.ofNat (a.getD i.toNat default).Fs.length==0) (.k (.inl true)) (.h (a,(IntKind.i64.wrap (i+1)),()) ()))) (.k (.inr ()))
def zBQ (x:zBx) (y:Unit):=zpE x.1 x.2.1
def zKB (n:Nat) (a:yB) (i:Int):=zy (zBQ) (.inl default) n (a,i,()) ()
def z1c:LL ty zBx:=za (lSl 107) (za zj zk)
def zKH:=zbV base 17 [] [] [(2,(kpL [0,3]))] [(2,1,[]),(2,0,(kpL [2]))] [(2,spW z1c zbaJ (zBQ) (.inl default) znV λx y=>(x.1.length+Int.toNat x.2.1+1))] []
theorem zX8:zC zKH (lp (body f185) 0):=zn (id:=2) (hl:=rfl)
def zMK (a:yB):Wy0 (Bool):=.bn (zKB (a.length+Int.toNat 0+1) a 0) λr0=>.i (isL r0) (.k (getL r0)) (.k false)
def zi3 (a:yB):=(zMK a).fin default
def zsa:=zh zY9 λx=>((zi3 x.1).1,zXz (zi3 x.1).2)
theorem zw7:SdP 185 zsa:=
 sT (cx':=zKH) (zi trivial) call185 func185 (lOK (aC zX8 aN))
def z7E:=zbp base 36 []
def zVU (v:Value):Wy0 (Bool):=.i (v.Kind==0) (.k (v.Text.toList==(ByteArray.mk #[]).toList)) (.i (v.Kind==1) (.i (v.Int==0) (.k (decide (Int.ofNat v.Text.size<=255))) (.k false)) (.i (v.Kind==2) (.i (v.Text.toList==(ByteArray.mk #[]).toList) (.i (v.Int==0) (.k true) (.k (v.Int==1))) (.k false)) (.k false)))
def zuu (v:Value):=(zVU v).fin default
def zC6:=zh zbbk λx=>((zuu x.1).1,zXz (zuu x.1).2)
theorem zKN:SdP 108 zC6:=
 sT (cx':=z7E) (zi trivial) call108 func108 (lOK aN)
abbrev zAs:=Int×yD×Unit×Int×Unit
def zvJ (fn:Int) (items:yD) (i:Int) (bound:Value):Wy zAs (Value×Unit) (Bool⊕Unit):=.i (decide (i<Int.ofNat items.length)) (.ix i items.length (.bn (zuu (items.getD i.toNat default).Value) λr0=>.i (!r0) (.k (.inl false)) (.i ((items.getD i.toNat default).Value.Kind != bound.Kind) (.k (.inl false)) (.i (fn==0) (.i ((items.getD i.toNat default).Value.Int != 1) (.k (.inl false)) (.h (fn,items,(),(IntKind.i64.wrap (i+1)),()) (bound,()))) (.h (fn,items,(),(IntKind.i64.wrap (i+1)),()) (bound,())))))) (.k (.inr ()))
def zHn (x:zAs) (y:Value×Unit):=zvJ x.1 x.2.1 x.2.2.2.1 y.1
def zG8 (n:Nat) (fn:Int) (items:yD) (i:Int) (bound:Value):=zy (zHn) (.inl default) n (fn,items,(),i,()) (bound,())
def z9i:LL ty zAs:=za zj (za (lSl 169) (za (zcm 276 0) (za zj zk)))
def z7y:BL ty (Value×Unit):=zdx (zdi (λx=>(⟨x.1,x.2.1,x.2.2.1⟩:Value)) (λx=>(x.Kind,x.Int,x.Text,())) (λ_=>rfl) (za (zL .i64) (za (zL .i64) (za zoZ zk)))) false (zY)
def z6X (x:zAs) (y:Value×Unit):Nat:=(Int.toNat x.1+x.2.1.length+Int.toNat x.2.2.2.1+1)
def zRP:=zbV base 69 [(108,zC6)] [] [(4,(kpL [0,1,7,9]))] [(4,1,[]),(4,0,(kpL [8]))] [(4,spW z9i z7y (zHn) (.inl default) znV z6X)] []
theorem z5I:zC zRP (lp (body f187) 0):=zn (id:=4) (hl:=rfl)
def zVt (fn:Int) (items:yD) (op:Int) (bound:Value):Wy0 (Bool):=.i (decide (fn<0)) (.k false) (.i (decide (fn>3)) (.k false) (.i (decide (op<5)) (.k false) (.i (decide (op>10)) (.k false) (.bn (zuu bound) λr4=>.i (!r4) (.k false) (.i (decide (fn<=1)) (.i (bound.Kind != 0) (.k false) (.bn (zG8 (fn.toNat +items.length+Int.toNat 0+1) fn items 0 bound) λr2=>.i (isL r2) (.k (getL r2)) (.k true))) (.bn (zG8 (fn.toNat +items.length+Int.toNat 0+1) fn items 0 bound) λr3=>.i (isL r3) (.k (getL r3)) (.k true)))))))
def zyl (fn:Int) (items:yD) (op:Int) (bound:Value):=(zVt fn items op bound).fin default
def zCR:=zh zTK λx=>((zyl x.1 x.2.1 x.2.2.1 x.2.2.2.1).1,zXz (zyl x.1 x.2.1 x.2.2.1 x.2.2.2.1).2)
theorem zKV:SdP 187 zCR:=
 sT (cx':=zRP) (zi ⟨zKN,trivial⟩) call187 func187 (lOK (aC z5I aN))
def z7Y:=zbp base 23 []
def zVQ (x_:At):Wy0 (Bool):=.i (x_.Func==0) (.i (Int.ofNat x_.Items.length==0) (.i (x_.Op==0) (.k (x_.Bd.Kind==0&&(x_.Bd.Int==0&&(x_.Bd.Text.toList==(ByteArray.mk #[]).toList&&true)))) (.k false)) (.k false)) (.k false)
def zqv (x_:At):=(zVQ x_).fin default
def zMA:=zh zbcy λx=>((zqv x.1).1,zXz (zqv x.1).2)
theorem z1s:SdP 184 zMA:=
 sT (cx':=z7Y) (zi trivial) call184 func184 (lOK aN)
abbrev zgl:=Unit×Int×Unit
def zlA (zbw:yB->Bool×Bool) (i:Int) (x_:At):Wy zgl (At×Unit) (Bool⊕At):=.i (decide (i<Int.ofNat x_.Ag.length)) (.ix i x_.Ag.length (.i (Int.ofNat (List.length (x_.Ag.getD i.toNat default))==0) (.k (.inl false)) (.ix i x_.Ag.length (.bn (zbw (x_.Ag.getD i.toNat default)) λr0=>.i (!r0) (.k (.inl false)) (.h ((),(IntKind.i64.wrap (i+1)),()) (x_,())))))) (.k (.inr x_))
def zwG (zbw:yB->Bool×Bool) (x:zgl) (y:At×Unit):=zlA zbw x.2.1 y.1
def zxe (zbw:yB->Bool×Bool) (n:Nat) (i:Int) (x_:At):=zy (zwG zbw) (.inl default) n ((),i,()) (x_,())
def zTf (r:Bool⊕At):LTree ty:=.ite (isL r) (.done .ret [.lit (.bool (getL r))] []) (.done (.exit 0) [.ptr 824 0] [.box (base.enc 143 (getR r)) false])
def zUz:LL ty zgl:=za (zcm 824 0) (za zj zk)
def zkw (zbw:yB->Bool×Bool) (i:Int) (x_:At):Wy zgl (At×Unit) (Bool⊕Unit):=.i (decide (i<Int.ofNat x_.Items.length)) (.ix i x_.Items.length (.i (Int.ofNat (x_.Items.getD i.toNat default).Ann.length==0) (.k (.inl false)) (.ix i x_.Items.length (.bn (zbw (x_.Items.getD i.toNat default).Ann) λr3=>.i (!r3) (.k (.inl false)) (.i (decide (i>0)) (.i (decide (0<=IntKind.i64.wrap (i - 1))&&decide (IntKind.i64.wrap (i - 1)<=i)&&decide (i<=Int.ofNat x_.Items.length)) (.i (decide (0<=i)&&decide (i<=IntKind.i64.wrap (i+1))&&decide (IntKind.i64.wrap (i+1)<=Int.ofNat x_.Items.length)) (.bn (zue (List.take (i.toNat - (IntKind.i64.wrap (i - 1)).toNat) (List.drop (IntKind.i64.wrap (i - 1)).toNat x_.Items)) (List.take ((IntKind.i64.wrap (i+1)).toNat - i.toNat) (List.drop i.toNat x_.Items))) λr2=>.i (decide (r2>0)) (.k (.inl false)) (.h ((),(IntKind.i64.wrap (i+1)),()) (x_,()))) .d) .d) (.h ((),(IntKind.i64.wrap (i+1)),()) (x_,()))))))) (.k (.inr ()))
def zvp (zbw:yB->Bool×Bool) (x:zgl) (y:At×Unit):=zkw zbw x.2.1 y.1
def zDJ (zbw:yB->Bool×Bool) (n:Nat) (i:Int) (x_:At):=zy (zvp zbw) (.inl default) n ((),i,()) (x_,())
def zP1 (r:Bool⊕Unit):LTree ty:=.ite (isL r) (.done .ret [.lit (.bool (getL r))] []) (.done (.exit 3) [] [])
def zSL (x:zgl) (y:At×Unit):Nat:=(Int.toNat x.2.1+y.1.Ag.length+y.1.Items.length+1)
def zwC (zbw:yB->Bool×Bool):=zbV base 206 [(33,zze),(56,(ziu zbw)),(184,zMA),(185,zsa),(186,zBs),(187,zCR),(188,zsR)] [] [(6,(kpL [1,3])),(21,(kpL [1,4]))] [(6,1,(kpL [1])),(6,0,(kpL [2])),(21,4,[]),(21,0,(kpL [2]))] [(6,spW zUz zZf (zwG zbw) (.inl default) zTf zSL),(21,spW zUz zZf (zvp zbw) (.inl default) zP1 zSL)] []
theorem zRX (zbw:yB->Bool×Bool):zC (zwC zbw) (lp (body f111) 0):=zn (id:=6) (hl:=rfl)
theorem zQQ (zbw:yB->Bool×Bool):zC (zwC zbw) (lp (body f111) 1):=zn (id:=21) (hl:=rfl)
def zGD (zbw:yB->Bool×Bool) (x_:At):Wy0 (Bool):=.i (x_.Kind==0) (.i (decide (x_.Row.Table≥1)) (.i (decide (x_.Row.Seq≥1)) (.i (Int.ofNat x_.Ag.length==0) (.bn (zqv (At.et x_)) λr6=>.k r6) (.k false)) (.k false)) (.k false)) (.i (!(x_.Row.Table==0&&(x_.Row.Seq==0&&true))) (.k false) (.bn (zxe zbw (Int.toNat 0+x_.Ag.length+x_.Items.length+1) 0 (At.et x_)) λr17=>.i (isL r17) (.k (getL r17)) (.i ((getR r17).Kind==1) (.i (Int.ofNat (getR r17).Ag.length==2) (.bn (zqv (At.et (getR r17))) λr8=>.i (r8) (.ix 0 ((getR r17).Ag.length) (.ix 1 ((getR r17).Ag.length) (.bn (zp1 ((getR r17).Ag.getD (Int.toNat 0) default) ((getR r17).Ag.getD (Int.toNat 1) default)) λr7=>.k (!r7)))) (.k false)) (.k false)) (.i ((getR r17).Kind==2) (.i (Int.ofNat (getR r17).Ag.length==1) (.bn (zqv (At.et (getR r17))) λr12=>.i (r12) (.ix 0 ((getR r17).Ag.length) (.i (Int.ofNat (List.length ((getR r17).Ag.getD (Int.toNat 0) default))==1) (.ix 0 ((getR r17).Ag.length) (.bn (zi3 ((getR r17).Ag.getD (Int.toNat 0) default)) λr10=>.i (!r10) (.ix 0 ((getR r17).Ag.length) (.bn (zrt ((getR r17).Ag.getD (Int.toNat 0) default)) λr9=>.k (!r9))) (.k false))) (.ix 0 ((getR r17).Ag.length) (.bn (zrt ((getR r17).Ag.getD (Int.toNat 0) default)) λr11=>.k (!r11))))) (.k false)) (.k false)) (.i ((getR r17).Kind==3) (.i (Int.ofNat (getR r17).Ag.length==1) (.bn (zqv (At.et (getR r17))) λr14=>.i (r14) (.ix 0 ((getR r17).Ag.length) (.bn (zi3 ((getR r17).Ag.getD (Int.toNat 0) default)) λr13=>.k (!r13))) (.k false)) (.k false)) (.i ((getR r17).Kind==4) (.i (Int.ofNat (getR r17).Ag.length != 0) (.k false) (.i (Int.ofNat (getR r17).Items.length==0) (.k false) (.i (decide (Int.ofNat (getR r17).Items.length>1024)) (.k false) (.bn (zyl (getR r17).Func (getR r17).Items (getR r17).Op (getR r17).Bd) λr16=>.i (!r16) (.k false) (.bn (zDJ zbw (Int.toNat 0+(getR r17).Ag.length+(getR r17).Items.length+1) 0 (At.et (getR r17))) λr15=>.i (isL r15) (.k (getL r15)) (.k true)))))) (.k false)))))))
def zpp (zbw:yB->Bool×Bool) (x_:At):=(zGD zbw x_).fin default
theorem zOF (zbw:yB->Bool×Bool) (z6W:SdP 56 (ziu zbw)):SdP 111 (znj (zpp zbw)):=
 sT (cx':=(zwC zbw)) (zi ⟨zC4,z6W,z1s,zw7,zIl,zKV,zzI,trivial⟩) call111 func111 (lOK (aC (zRX zbw) (aC (zQQ zbw) aN)))
def zLp:Nat->(yB->Bool×Bool)×(At->Bool×Bool)
 | 0=>(λ_=>(false,default),λ_=>(false,default))
 | n+1=>(zx2 ((zLp n).2),zpp ((zLp n).1))
def zyd (n:Nat):yB->Bool×Bool:=(zLp n).1
def zu9 (n:Nat):At->Bool×Bool:=(zLp n).2
theorem z26 (n:Nat):zyd (n+1)=zx2 (zu9 n):=rfl
theorem zT7 (n:Nat):zu9 (n+1)=zpp (zyd n):=rfl
theorem zZ5:∀ n,SdP 56 (ziu (zyd n))/\SdP 111 (znj (zu9 n))
 | 0=>⟨zbl call56 (λ_=>rfl),zbl call111 (λ_=>rfl)⟩
 | n+1=>by
  have ih:=zZ5 n;exact ⟨zWq _ (ih.2),zOF _ (ih.1)⟩
def zfk:yB->Bool×Bool:=zyd 1000
def zgw:Ab.Spec ty:=ziu zfk
theorem zhh:SdP 56 zgw:=(zZ5 1000).1
def z1u (r:yB×Int):ARes ty:=⟨[.pure (.sl 107 r.1),.pure (.lit (.int .i64 r.2))],[]⟩
def z5C:AL base (yB×yE×Unit):=zd (ze (vSl 107)) (zd (ze (vSl 65)) zp)
def ztN (F:yB->yE->Bool×(yB×Int)):Ab.Spec ty:=zh z5C λx=>((F x.1 x.2.1).1,z1u (F x.1 x.2.1).2)
def zbbO:AL base (At×yE×Unit):=zd (ze (zb7 143)) (zd (ze (vSl 65)) zp)
def zFe (F:At->yE->Bool×(yB×Int)):Ab.Spec ty:=zh zbbO λx=>((F x.1 x.2.1).1,z1u (F x.1 x.2.1).2)
def zbdB:=zbp base 3 []
def zbeJ:Wy0 (yB):=.k [TO.mk 1 []]
def zI8:Bool×yB:=(zbeJ).fin default
def zAG:=zh z9e λx=>((zI8 ).1,z7K (zI8 ).2)
theorem zEF:SdP 283 zAG:=
 sT (cx':=zbdB) (zi trivial) call283 func283 (lOK aN) (sg:=⟨[.own 107],[]⟩)
def zbeg:=zbp base 8 [(109,zFW)]
def z2r (a:yB):Wy0 (yB×Int):=.bn (zAC a) λr0=>.i (!r0) (.k ([],6)) (.k (a,0))
def znr (a:yB):=(z2r a).fin default
def zmP:=zh zY9 λx=>((znr x.1).1,z1u (znr x.1).2)
theorem zoi:SdP 194 zmP:=
 sT (cx':=zbeg) (zi ⟨zMV,trivial⟩) call194 func194 (lOK aN) (sg:=⟨[.pure,.pure],[]⟩)
def z6j:=zbp base 20 [(56,zgw),(118,zov),(185,zsa),(194,zmP),(283,zAG)]
def zGW (a:yB):Wy0 (yB×Int):=.bn (zfk a) λr2=>.i (!r2) (.k ([],1)) (.i (Int.ofNat a.length==0) (.k (zI8.2,0)) (.bn (zi3 a) λr1=>.i (r1) (.k ([],0)) (.bn (znr (znh (At.mk 3 (RowID.mk 0 0) [a] 0 [] 0 (Value.mk 0 0 (ByteArray.mk #[])))).2) λr0=>.k (r0.1,r0.2))))
def zrS (a:yB):=(zGW a).fin default
def zKO:=zh zY9 λx=>((zrS x.1).1,z1u (zrS x.1).2)
theorem zXI:SdP 243 zKO:=
 sT (cx':=z6j) (zi ⟨zhh,zrn,zw7,zoi,zEF,trivial⟩) call243 func243 (lOK aN) (sg:=⟨[.pure,.pure],[]⟩)
def z9g:=zbp base 30 [(56,zgw),(118,zov),(185,zsa),(186,zBs),(194,zmP),(283,zAG)]
def zJR (a:yB):Wy0 (yB×Int):=.bn (zfk a) λr4=>.i (!r4) (.k ([],1)) (.i (Int.ofNat a.length==0) (.k (a,0)) (.bn (zrt a) λr3=>.i (r3) (.k (a,0)) (.i (Int.ofNat a.length==1) (.bn (zi3 a) λr1=>.i (r1) (.k (zI8.2,0)) (.bn (znr (znh (At.mk 2 (RowID.mk 0 0) [a] 0 [] 0 (Value.mk 0 0 (ByteArray.mk #[])))).2) λr0=>.k (r0.1,r0.2))) (.bn (znr (znh (At.mk 2 (RowID.mk 0 0) [a] 0 [] 0 (Value.mk 0 0 (ByteArray.mk #[])))).2) λr2=>.k (r2.1,r2.2)))))
def zuy (a:yB):=(zJR a).fin default
def zNO:=zh zY9 λx=>((zuy x.1).1,z1u (zuy x.1).2)
theorem z1J:SdP 242 zNO:=
 sT (cx':=z9g) (zi ⟨zhh,zrn,zw7,zIl,zoi,zEF,trivial⟩) call242 func242 (lOK aN) (sg:=⟨[.pure,.pure],[]⟩)
def z8r:=zbp base 34 [(33,zze),(56,zgw),(118,zov),(194,zmP)]
def zJZ (a:yB) (b:yB):Wy0 (yB×Int):=.bn (zfk a) λr3=>.i (!r3) (.k ([],1)) (.bn (zfk b) λr2=>.i (!r2) (.k ([],1)) (.i (Int.ofNat b.length==0) (.k (a,0)) (.i (Int.ofNat a.length==0) (.k ([],0)) (.bn (zp1 a b) λr1=>.i (r1) (.k ([],0)) (.bn (znr (znh (At.mk 1 (RowID.mk 0 0) [a,b] 0 [] 0 (Value.mk 0 0 (ByteArray.mk #[])))).2) λr0=>.k (r0.1,r0.2))))))
def zup (a:yB) (b:yB):=(zJZ a b).fin default
def zMO:=zh zTO λx=>((zup x.1 x.2.1).1,z1u (zup x.1 x.2.1).2)
theorem z1D:SdP 241 zMO:=
 sT (cx':=z8r) (zi ⟨zC4,zhh,zrn,zoi,trivial⟩) call241 func241 (lOK aN) (sg:=⟨[.pure,.pure],[]⟩)
abbrev zAy:=yD×Unit×Int×Int×Unit
abbrev ziX:=yD×Unit
abbrev zSj:=yD×Int×Int×yD
abbrev zAQ:=yD×Unit×Int×Unit
def zvK (l:yD) (i:Int) (k:Int) (out_:yD):Wy zAy ziX zSj:=.i (decide (k<Int.ofNat out_.length)) (.i (decide (0<=k)&&decide (k<=IntKind.i64.wrap (k+1))&&decide (IntKind.i64.wrap (k+1)<=Int.ofNat out_.length)) (.i (decide (0<=i)&&decide (i<=IntKind.i64.wrap (i+1))&&decide (IntKind.i64.wrap (i+1)<=Int.ofNat l.length)) (.bn (zue (List.take ((IntKind.i64.wrap (k+1)).toNat - k.toNat) (List.drop k.toNat out_)) (List.take ((IntKind.i64.wrap (i+1)).toNat - i.toNat) (List.drop i.toNat l))) λr0=>.i (decide (r0<=0)) (.h (l,(),i,(IntKind.i64.wrap (k+1)),()) (out_,())) (.k (l,i,k,out_))) .d) .d) (.k (l,i,k,out_))
def zG2 (x:zAy) (y:ziX):=zvK x.1 x.2.2.1 x.2.2.2.1 y.1
def zRo (n:Nat) (l:yD) (i:Int) (k:Int) (out_:yD):=zy (zG2) default n (l,(),i,k,()) (out_,())
def z5i (r:zSj):LTree ty:=.done (.exit 2) [.sl 169 r.1,.own 224,.lit (.int .i64 r.2.1),.lit (.int .i64 r.2.2.1)] [.arr 169 r.2.2.2 false]
def z7w:LL ty zAy:=za (lSl 169) (za (zeD 224) (za zj (za zj zk)))
def z9j:BL ty ziX:=zeG 169 false (zY)
def zvq (l:yD) (i:Int) (out_:yD):Wy zAQ ziX (yD):=.i (decide (i<Int.ofNat l.length)) (.ix i l.length (.i (Int.ofNat (l.getD i.toNat default).Ann.length==0) (.h (l,(),(IntKind.i64.wrap (i+1)),()) (out_,())) (.bn (zRo (l.length+i.toNat +Int.toNat 0+out_.length+1) l i 0 out_) λr2=>.i (decide ((0:Int)<=(0:Int))&&decide (0<=r2.2.2.1)&&decide (r2.2.2.1<=Int.ofNat r2.2.2.2.length)) (.i (decide ((0+(List.take (r2.2.2.1.toNat - Int.toNat 0) (List.drop (Int.toNat 0) r2.2.2.2)).length)*56<=zD)) (.ix r2.2.1 r2.1.length (.i (decide ((([]++List.take (r2.2.2.1.toNat - Int.toNat 0) (List.drop (Int.toNat 0) r2.2.2.2)).length+[r2.1.getD r2.2.1.toNat default].length)*56<=zD)) (.i (decide (0<=r2.2.2.1)&&decide (r2.2.2.1<=Int.ofNat r2.2.2.2.length)&&decide (Int.ofNat r2.2.2.2.length<=Int.ofNat r2.2.2.2.length)) (.i (decide ((([]++List.take (r2.2.2.1.toNat - Int.toNat 0) (List.drop (Int.toNat 0) r2.2.2.2)++[r2.1.getD r2.2.1.toNat default]).length+(List.take ((Int.ofNat r2.2.2.2.length).toNat - r2.2.2.1.toNat) (List.drop r2.2.2.1.toNat r2.2.2.2)).length)*56<=zD)) (.h ((r2.1),(),(IntKind.i64.wrap (r2.2.1+1)),()) (([]++List.take (r2.2.2.1.toNat - Int.toNat 0) (List.drop (Int.toNat 0) r2.2.2.2)++[r2.1.getD r2.2.1.toNat default]++List.take ((Int.ofNat r2.2.2.2.length).toNat - r2.2.2.1.toNat) (List.drop r2.2.2.1.toNat r2.2.2.2)),())) .d) .d) .d)) .d) .d))) (.k out_)
def zHj (x:zAQ) (y:ziX):=zvq x.1 x.2.2.1 y.1
def zR0 (n:Nat) (l:yD) (i:Int) (out_:yD):=zy (zHj) default n (l,(),i,()) (out_,())
def z58 (r:yD):LTree ty:=.done (.exit 0) [.own 224] [.arr 169 r false]
def z7W:LL ty zAQ:=za (lSl 169) (za (zeD 224) (za zj zk))
def z5S (x:zAy) (y:ziX):Nat:=(x.1.length+Int.toNat x.2.2.1+Int.toNat x.2.2.2.1+y.1.length+1)
def z5M (x:zAQ) (y:ziX):Nat:=(x.1.length+Int.toNat x.2.2.1+y.1.length+1)
def zHH:=zbV base 56 [(188,zsR)] [] [(3,(kpL [0,3,4])),(7,(kpL [0,3,4,5]))] [(3,1,(kpL [3])),(7,3,(kpL [0,3,4,5]))] [(7,spW z7w z9j (zG2) default z5i z5S),(3,spW z7W z9j (zHj) default z58 z5M)] []
theorem z7a:zC zHH (lp (body f284) 1):=zn (id:=7) (hl:=rfl)
theorem z5y:zC zHH (lp (body f284) 0):=zn (id:=3) (hl:=rfl)
def zVG (l:yD):Wy0 (yD):=.bn (zR0 (l.length+Int.toNat 0+0+1) l 0 []) λr4=>.k r4
def zBS (l:yD):=(zVG l).fin default
def zba3:AL base ziX:=zd (ze (vSl 169)) zp
def zNt:=zh zba3 λx=>((zBS x.1).1,zTm (zBS x.1).2)
theorem z1v:SdP 284 zNt:=
 sT (cx':=zHH) (zi ⟨zzI,trivial⟩) call284 func284 (lOK (aC z5y (aC z7a aN))) (sg:=⟨[.own 169],[]⟩)
def z3W:=zbp base 30 []
def zPT (op:Int) (sign:Int):Wy0 (Bool):=.i (op==5) (.k (sign==0)) (.i (op==6) (.k (sign != 0)) (.i (op==7) (.k (decide (sign<0))) (.i (op==8) (.k (decide (sign<=0))) (.i (op==9) (.k (decide (sign>0))) (.i (op==10) (.k (decide (sign≥0))) (.k false))))))
def zxw (op:Int) (sign:Int):=(zPT op sign).fin default
def zJu:=zh zW3 λx=>((zxw x.1 x.2.1).1,zXz (zxw x.1 x.2.1).2)
theorem zWb:SdP 285 zJu:=
 sT (cx':=z3W) (zi trivial) call285 func285 (lOK aN)
end Go.Proofs.YtoknknbmfmddbaaGreatDoor
end
