/- Texts of this claim, joined (the program, its functions in plain words, and what they compute). -/
import Derived.Test.YtoknknbmfmddbaaGreatDoorGC5
set_option autoImplicit false
set_option linter.unusedVariables false
set_option linter.unusedSectionVars false
set_option linter.unusedSimpArgs false
set_option maxRecDepth 1000000
set_option maxHeartbeats 0
noncomputable section
namespace Go.Proofs.YtoknknbmfmddbaaGreatDoor
open Go Go.Ab
open Go.Proofs.Tryz
abbrev zCt:=Int×yD×Int×Unit×Int×Unit
abbrev zV1:=Int⊕(Int×yD×Int×Value)
def zxy (fn:Int) (items:yD) (op:Int) (i:Int) (bound:Value):Wy zCt (Value×Unit) zV1:=.i (decide (i<Int.ofNat items.length)) (.ix i items.length (.bn (zfk (items.getD i.toNat default).Ann) λr0=>.i (!r0) (.k (.inl 1)) (.h (fn,items,op,(),(IntKind.i64.wrap (i+1)),()) (bound,())))) (.k (.inr (fn,items,op,bound)))
def zJM (x:zCt) (y:Value×Unit):=zxy x.1 x.2.1 x.2.2.1 x.2.2.2.2.1 y.1
def zVx (n:Nat) (fn:Int) (items:yD) (op:Int) (i:Int) (bound:Value):=zy (zJM) (.inl default) n (fn,items,op,(),i,()) (bound,())
def z8q (r:zV1):LTree ty:=.ite (isL r) (.done .ret [.lit (.slice none 0 0),.lit (.int .i64 (getL r))] []) (.done (.exit 0) [.lit (.int .i64 (getR r).1),.sl 169 (getR r).2.1,.lit (.int .i64 (getR r).2.2.1),.ptr 220 0] [.box (base.enc 79 (getR r).2.2.2) false])
def zbat:LL ty zCt:=za zj (za (lSl 169) (za zj (za (zcm 220 0) (za zj zk))))
def z8u (x:zCt) (y:Value×Unit):Nat:=(Int.toNat x.1+x.2.1.length+Int.toNat x.2.2.1+Int.toNat x.2.2.2.2.1+1)
def zV4:=zbV base 55 [(56,zgw),(118,zov),(129,zjq),(187,zCR),(194,zmP),(283,zAG),(284,zNt),(285,zJu)] [] [(4,(kpL [0,1,2,7,10]))] [(4,1,(kpL [0,1,2,7])),(4,0,(kpL [8,9]))] [(4,spW zbat z7y (zJM) (.inl default) z8q z8u)] []
theorem z7h:zC zV4 (lp (body f244) 0):=zn (id:=4) (hl:=rfl)
def zZB (fn:Int) (items:yD) (op:Int) (bound:Value):Wy0 (yB×Int):=.bn (zyl fn items op bound) λr7=>.i (!r7) (.k ([],1)) (.bn (zVx (fn.toNat +items.length+op.toNat +Int.toNat 0+1) fn items op 0 bound) λr6=>.i (isL r6) (.k ([],getL r6)) (.bn (zBS (getR r6).2.1) λr5=>.i (Int.ofNat r5.length==0) (.i ((getR r6).1==0) (.bn (zc0 0 (getR r6).2.2.2.Int) λr3=>.bn (zxw (getR r6).2.2.1 r3) λr2=>.i (r2) (.k (zI8.2,0)) (.k ([],0))) (.k ([],0))) (.bn (znr (znh (At.mk 4 (RowID.mk 0 0) [] (getR r6).1 r5 (getR r6).2.2.1 (getR r6).2.2.2)).2) λr4=>.k (r4.1,r4.2))))
def zwL (fn:Int) (items:yD) (op:Int) (bound:Value):=(zZB fn items op bound).fin default
def zO8:=zh zTK λx=>((zwL x.1 x.2.1 x.2.2.1 x.2.2.2.1).1,z1u (zwL x.1 x.2.1 x.2.2.1 x.2.2.2.1).2)
theorem z35:SdP 244 zO8:=
 sT (cx':=zV4) (zi ⟨zhh,zrn,zkp,zKV,zoi,zEF,z1v,zWb,trivial⟩) call244 func244 (lOK (aC z7h aN)) (sg:=⟨[.pure,.pure],[]⟩)
abbrev zHI:=yE×Unit×Int×Unit
abbrev zRz:=(yB×Bool)⊕Unit
def zHO (l:yE) (i:Int) (id:RowID):Wy zHI (RowID×Unit) zRz:=.i (decide (i<Int.ofNat l.length)) (.ix i l.length (.i ((l.getD i.toNat default).Row.Table==id.Table&&((l.getD i.toNat default).Row.Seq==id.Seq&&true)) (.ix i l.length (.k (.inl ((l.getD i.toNat default).To,true)))) (.h (l,(),(IntKind.i64.wrap (i+1)),()) (id,())))) (.k (.inr ()))
def zRD (x:zHI) (y:RowID×Unit):=zHO x.1 x.2.2.1 y.1
def zHg (n:Nat) (l:yE) (i:Int) (id:RowID):=zy (zRD) (.inl default) n (l,(),i,()) (id,())
def z5Y (r:zRz):LTree ty:=.ite (isL r) (.done .ret [.sl 107 ((getL r).1),.lit (.bool ((getL r).2))] []) (.done (.exit 0) [] [])
def z8p:LL ty zHI:=za (lSl 65) (za (zcm 100 0) (za zj zk))
def z7Q:BL ty (RowID×Unit):=zdx (zdi (λx=>(⟨x.1,x.2.1⟩:RowID)) (λx=>(x.Table,x.Seq,())) (λ_=>rfl) (za (zL .i64) (za (zL .i64) zk))) false (zY)
def zRk:=zbV base 25 [] [] [(2,(kpL [0,3,6]))] [(2,1,[]),(2,0,(kpL [4,5]))] [(2,spW z8p z7Q (zRD) (.inl default) z5Y λx y=>(x.1.length+Int.toNat x.2.2.1+1))] []
theorem z6U:zC zRk (lp (body f240) 0):=zn (id:=2) (hl:=rfl)
def zVM (l:yE) (id:RowID):Wy0 (yB×Bool):=.bn (zHg (l.length+Int.toNat 0+1) l 0 id) λr0=>.i (isL r0) (.k ((getL r0).1,(getL r0).2)) (.k ([],false))
def zCc (l:yE) (id:RowID):=(zVM l id).fin default
def z6g (r:yB×Bool):ARes ty:=⟨[.pure (.sl 107 r.1),.pure (.lit (.bool r.2))],[]⟩
def zbao:AL base (yE×RowID×Unit):=zd (ze (vSl 65)) (zd (ze (zb7 63)) zp)
def zMJ:=zh zbao λx=>((zCc x.1 x.2.1).1,z6g (zCc x.1 x.2.1).2)
theorem z1O:SdP 240 zMJ:=
 sT (cx':=zRk) (zi trivial) call240 func240 (lOK (aC z6U aN)) (sg:=⟨[.pure,.pure],[]⟩)
abbrev zCr:=yE×Unit×Unit×Int×Unit
abbrev zCA:=At×yA×Unit
abbrev zVr:=Int⊕(yE×At×yA)
abbrev zCs:=yE×Unit×Unit×Unit×Int×Unit
abbrev zCC:=At×yA×yD×Unit
abbrev zVX:=Int⊕(At×yA×yD)
def zES (zbg:yB->yE->Bool×(yB×Int)) (l:yE) (i:Int) (x_:At) (args:yA):Wy zCr zCA zVr:=.i (decide (i<Int.ofNat x_.Ag.length)) (.ix i x_.Ag.length (.bn (zbg (x_.Ag.getD i.toNat default) l) λr0=>.i (r0.2 != 0) (.k (.inl (r0.2))) (.i (decide ((args.length+[r0.1].length)*24<=zD)) (.h (l,(),(),(IntKind.i64.wrap (i+1)),()) (x_,(args++[r0.1]),())) .d))) (.k (.inr (l,x_,args)))
def zPS (zbg:yB->yE->Bool×(yB×Int)) (x:zCr) (y:zCA):=zES zbg x.1 x.2.2.2.1 y.1 y.2.1
def zEA (zbg:yB->yE->Bool×(yB×Int)) (n:Nat) (l:yE) (i:Int) (x_:At) (args:yA):=zy (zPS zbg) (.inl default) n (l,(),(),i,()) (x_,args,())
def z33 (r:zVr):LTree ty:=.ite (isL r) (.done .ret [.lit (.slice none 0 0),.lit (.int .i64 (getL r))] []) (.done (.exit 0) [.sl 65 (getR r).1,.ptr 512 0,.own 513] [.box (base.enc 143 (getR r).2.1) false,.arr 51 (getR r).2.2 false])
def z5w:LL ty zCr:=za (lSl 65) (za (zcm 512 0) (za (zeD 513) (za zj zk)))
def z6k:BL ty zCA:=zdx (zdi (λx=>(⟨x.1,⟨x.2.1,x.2.2.1⟩,x.2.2.2.1,x.2.2.2.2.1,x.2.2.2.2.2.1,x.2.2.2.2.2.2.1,⟨x.2.2.2.2.2.2.2.1,x.2.2.2.2.2.2.2.2.1,x.2.2.2.2.2.2.2.2.2.1⟩⟩:At)) (λx=>(x.Kind,x.Row.Table,x.Row.Seq,x.Ag,x.Func,x.Items,x.Op,x.Bd.Kind,x.Bd.Int,x.Bd.Text,())) (λ_=>rfl) (za (zL .i64) (za (zL .i64) (za (zL .i64) (za (lSl 51) (za (zL .i64) (za (lSl 169) (za (zL .i64) (za (zL .i64) (za (zL .i64) (za zoZ zk))))))))))) false (zeG 51 false (zY))
def zCP (zbg:yB->yE->Bool×(yB×Int)) (l:yE) (i:Int) (x_:At) (args:yA) (items:yD):Wy zCs zCC zVX:=.i (decide (i<Int.ofNat x_.Items.length)) (.ix i x_.Items.length (.bn (zbg (x_.Items.getD i.toNat default).Ann l) λr2=>.i (r2.2 != 0) (.k (.inl (r2.2))) (.ix i x_.Items.length (.i (decide ((items.length+[WO.mk (x_.Items.getD i.toNat default).Value r2.1].length)*56<=zD)) (.h (l,(),(),(),(IntKind.i64.wrap (i+1)),()) (x_,args,(items++[WO.mk (x_.Items.getD i.toNat default).Value r2.1]),())) .d)))) (.k (.inr (x_,args,items)))
def zM8 (zbg:yB->yE->Bool×(yB×Int)) (x:zCs) (y:zCC):=zCP zbg x.1 x.2.2.2.2.1 y.1 y.2.1 y.2.2.1
def zDa (zbg:yB->yE->Bool×(yB×Int)) (n:Nat) (l:yE) (i:Int) (x_:At) (args:yA) (items:yD):=zy (zM8 zbg) (.inl default) n (l,(),(),(),i,()) (x_,args,items,())
def z1i (r:zVX):LTree ty:=.ite (isL r) (.done .ret [.lit (.slice none 0 0),.lit (.int .i64 (getL r))] []) (.done (.exit 2) [.ptr 512 0,.own 513,.own 514] [.box (base.enc 143 (getR r).1) false,.arr 51 (getR r).2.1 false,.arr 169 (getR r).2.2 false])
def z3L:LL ty zCs:=za (lSl 65) (za (zcm 512 0) (za (zeD 513) (za (zeD 514) (za zj zk))))
def z3G:BL ty zCC:=zdx (zdi (λx=>(⟨x.1,⟨x.2.1,x.2.2.1⟩,x.2.2.2.1,x.2.2.2.2.1,x.2.2.2.2.2.1,x.2.2.2.2.2.2.1,⟨x.2.2.2.2.2.2.2.1,x.2.2.2.2.2.2.2.2.1,x.2.2.2.2.2.2.2.2.2.1⟩⟩:At)) (λx=>(x.Kind,x.Row.Table,x.Row.Seq,x.Ag,x.Func,x.Items,x.Op,x.Bd.Kind,x.Bd.Int,x.Bd.Text,())) (λ_=>rfl) (za (zL .i64) (za (zL .i64) (za (zL .i64) (za (lSl 51) (za (zL .i64) (za (lSl 169) (za (zL .i64) (za (zL .i64) (za (zL .i64) (za zoZ zk))))))))))) false (zeG 51 false (zeG 169 false (zY)))
def z4c (x:zCr) (y:zCA):Nat:=(x.1.length+Int.toNat x.2.2.2.1+y.1.Ag.length+y.1.Items.length+y.2.1.length+1)
def z08 (x:zCs) (y:zCC):Nat:=(x.1.length+Int.toNat x.2.2.2.2.1+y.1.Ag.length+y.1.Items.length+y.2.1.length+y.2.2.1.length+1)
def zFd (zbg:yB->yE->Bool×(yB×Int)):=zbV base 128 [(64,zGZ),(142,(ztN zbg)),(240,zMJ),(241,zMO),(242,zNO),(243,zKO),(244,zO8)] [] [(8,(kpL [1,2,8,9])),(16,(kpL [1,2,8,12,13]))] [(8,1,(kpL [1,2,8])),(8,0,(kpL [4,5])),(16,3,(kpL [2,8,12])),(16,0,(kpL [4,5]))] [(8,spW z5w z6k (zPS zbg) (.inl default) z33 z4c),(16,spW z3L z3G (zM8 zbg) (.inl default) z1i z08)] []
theorem z30 (zbg:yB->yE->Bool×(yB×Int)):zC (zFd zbg) (lp (body f202) 0):=zn (id:=8) (hl:=rfl)
theorem z1o (zbg:yB->yE->Bool×(yB×Int)):zC (zFd zbg) (lp (body f202) 1):=zn (id:=16) (hl:=rfl)
def zSs (zbg:yB->yE->Bool×(yB×Int)) (x_:At) (l:yE):Wy0 (yB×Int):=.i (x_.Kind==0) (.bn (zCc l x_.Row) λr5=>.i (r5.2) (.k (r5.1,0)) (.bn (zDw x_.Row) λr4=>.k (r4,0))) (.bn (zEA zbg (l.length+Int.toNat 0+x_.Ag.length+x_.Items.length+0+1) l 0 (At.et x_) []) λr11=>.i (isL r11) (.k ([],getL r11)) (.bn (zDa zbg ((getR r11).1.length+Int.toNat 0+(getR r11).2.1.Ag.length+(getR r11).2.1.Items.length+(getR r11).2.2.length+0+1) (getR r11).1 0 (At.et (getR r11).2.1) (getR r11).2.2 []) λr10=>.i (isL r10) (.k ([],getL r10)) (.i ((getR r10).1.Kind==1) (.ix 0 ((getR r10).2.1.length) (.ix 1 ((getR r10).2.1.length) (.bn (zup ((getR r10).2.1.getD (Int.toNat 0) default) ((getR r10).2.1.getD (Int.toNat 1) default)) λr6=>.k (r6.1,r6.2)))) (.i ((getR r10).1.Kind==2) (.ix 0 ((getR r10).2.1.length) (.bn (zuy ((getR r10).2.1.getD (Int.toNat 0) default)) λr7=>.k (r7.1,r7.2))) (.i ((getR r10).1.Kind==3) (.ix 0 ((getR r10).2.1.length) (.bn (zrS ((getR r10).2.1.getD (Int.toNat 0) default)) λr8=>.k (r8.1,r8.2))) (.bn (zwL (getR r10).1.Func (getR r10).2.2 (getR r10).1.Op (getR r10).1.Bd) λr9=>.k (r9.1,r9.2)))))))
def zAo (zbg:yB->yE->Bool×(yB×Int)) (x_:At) (l:yE):=(zSs zbg x_ l).fin default
theorem z0n (zbg:yB->yE->Bool×(yB×Int)) (z1k:SdP 142 (ztN zbg)):SdP 202 (zFe (zAo zbg)):=
 sT (cx':=(zFd zbg)) (zi ⟨zPq,z1k,z1O,z1D,z1J,zXI,z35,trivial⟩) call202 func202 (lOK (aC (z30 zbg) (aC (z1o zbg) aN))) (sg:=⟨[.pure,.pure],[]⟩)
def zbbg:=zbp base 9 []
def zYY (a:Int) (b:Int):Wy0 (Int):=.k (if 1152921504606846976<IntKind.i64.wrap (a+b) then 1152921504606846976 else IntKind.i64.wrap (a+b))
def zwZ (a:Int) (b:Int):=(zYY a b).fin default
def zPz:=zh zW3 λx=>((zwZ x.1 x.2.1).1,zQ3 (zwZ x.1 x.2.1).2)
theorem z4C:SdP 128 zPz:=
 sT (cx':=zbbg) (zi trivial) call128 func128 (lOK aN)
abbrev zEQ:=yB×Unit×Int×Unit
abbrev zYl:=yB×Int×Term
def zz8 (a:yB) (i:Int) (t:Term):Wy zEQ (Term×Unit) zYl:=.i (decide (i<Int.ofNat a.length)) (.ix i a.length (.bn (zlr (a.getD i.toNat default).Fs t.Fs) λr0=>.i (decide (r0<0)) (.h (a,(),(IntKind.i64.wrap (i+1)),()) (t,())) (.k (a,i,t)))) (.k (a,i,t))
def zNR (x:zEQ) (y:Term×Unit):=zz8 x.1 x.2.2.1 y.1
def zYZ (n:Nat) (a:yB) (i:Int) (t:Term):=zy (zNR) default n (a,(),i,()) (t,())
def zbaX (r:zYl):LTree ty:=.done (.exit 0) [.sl 107 r.1,.ptr 288 0,.lit (.int .i64 r.2.1)] [.box (base.enc 107 r.2.2) false]
def zbb2:LL ty zEQ:=za (lSl 107) (za (zcm 288 0) (za zj zk))
def zbbo (x:zEQ) (y:Term×Unit):Nat:=(x.1.length+Int.toNat x.2.2.1+y.1.Fs.length+1)
def zZx:=zbV base 72 [(110,zqb),(128,zPz)] [] [(2,(kpL [0,3,5]))] [(2,1,(kpL [0,3,5]))] [(2,spW zbb2 zS3 (zNR) default zbaX zbbo)] []
theorem zbaC:zC zZx (lp (body f75) 0):=zn (id:=2) (hl:=rfl)
def z2m (a:yB) (t:Term):Wy0 (yB):=.bn (zYZ (a.length+Int.toNat 0+t.Fs.length+1) a 0 t) λr3=>.i (decide ((0:Int)<=(0:Int))&&decide (0<=r3.2.1)&&decide (r3.2.1<=Int.ofNat r3.1.length)) (.i (decide ((0+(List.take (r3.2.1.toNat - Int.toNat 0) (List.drop (Int.toNat 0) r3.1)).length)*32<=zD)) (.i (decide (r3.2.1<Int.ofNat r3.1.length)) (.ix r3.2.1 r3.1.length (.bn (zlr (r3.1.getD r3.2.1.toNat default).Fs r3.2.2.Fs) λr2=>.i (r2==0) (.ix r3.2.1 r3.1.length (.i (decide ((([]++List.take (r3.2.1.toNat - Int.toNat 0) (List.drop (Int.toNat 0) r3.1)).length+[TO.mk (zwZ (r3.1.getD r3.2.1.toNat default).Cf r3.2.2.Cf).2 r3.2.2.Fs].length)*32<=zD)) (.i (decide (0<=IntKind.i64.wrap (r3.2.1+1))&&decide (IntKind.i64.wrap (r3.2.1+1)<=Int.ofNat r3.1.length)&&decide (Int.ofNat r3.1.length<=Int.ofNat r3.1.length)) (.i (decide ((([]++List.take (r3.2.1.toNat - Int.toNat 0) (List.drop (Int.toNat 0) r3.1)++[TO.mk (zwZ (r3.1.getD r3.2.1.toNat default).Cf r3.2.2.Cf).2 r3.2.2.Fs]).length+(List.take ((Int.ofNat r3.1.length).toNat - (IntKind.i64.wrap (r3.2.1+1)).toNat) (List.drop (IntKind.i64.wrap (r3.2.1+1)).toNat r3.1)).length)*32<=zD)) (.k ([]++List.take (r3.2.1.toNat - Int.toNat 0) (List.drop (Int.toNat 0) r3.1)++[TO.mk (zwZ (r3.1.getD r3.2.1.toNat default).Cf r3.2.2.Cf).2 r3.2.2.Fs]++List.take ((Int.ofNat r3.1.length).toNat - (IntKind.i64.wrap (r3.2.1+1)).toNat) (List.drop (IntKind.i64.wrap (r3.2.1+1)).toNat r3.1))) .d) .d) .d)) (.i (decide ((([]++List.take (r3.2.1.toNat - Int.toNat 0) (List.drop (Int.toNat 0) r3.1)).length+[r3.2.2].length)*32<=zD)) (.i (decide (0<=r3.2.1)&&decide (r3.2.1<=Int.ofNat r3.1.length)&&decide (Int.ofNat r3.1.length<=Int.ofNat r3.1.length)) (.i (decide ((([]++List.take (r3.2.1.toNat - Int.toNat 0) (List.drop (Int.toNat 0) r3.1)++[r3.2.2]).length+(List.take ((Int.ofNat r3.1.length).toNat - r3.2.1.toNat) (List.drop r3.2.1.toNat r3.1)).length)*32<=zD)) (.k ([]++List.take (r3.2.1.toNat - Int.toNat 0) (List.drop (Int.toNat 0) r3.1)++[r3.2.2]++List.take ((Int.ofNat r3.1.length).toNat - r3.2.1.toNat) (List.drop r3.2.1.toNat r3.1))) .d) .d) .d))) (.i (decide ((([]++List.take (r3.2.1.toNat - Int.toNat 0) (List.drop (Int.toNat 0) r3.1)).length+[r3.2.2].length)*32<=zD)) (.i (decide (0<=r3.2.1)&&decide (r3.2.1<=Int.ofNat r3.1.length)&&decide (Int.ofNat r3.1.length<=Int.ofNat r3.1.length)) (.i (decide ((([]++List.take (r3.2.1.toNat - Int.toNat 0) (List.drop (Int.toNat 0) r3.1)++[r3.2.2]).length+(List.take ((Int.ofNat r3.1.length).toNat - r3.2.1.toNat) (List.drop r3.2.1.toNat r3.1)).length)*32<=zD)) (.k ([]++List.take (r3.2.1.toNat - Int.toNat 0) (List.drop (Int.toNat 0) r3.1)++[r3.2.2]++List.take ((Int.ofNat r3.1.length).toNat - r3.2.1.toNat) (List.drop r3.2.1.toNat r3.1))) .d) .d) .d)) .d) .d
def zDY (a:yB) (t:Term):=(z2m a t).fin default
def zbek:AL base (yB×Term×Unit):=zd (ze (vSl 107)) (zd (ze (zb7 107)) zp)
def zHB:=zh zbek λx=>((zDY x.1 x.2.1).1,z7K (zDY x.1 x.2.1).2)
theorem zPZ:SdP 75 zHB:=
 sT (cx':=zZx) (zi ⟨zxv,z4C,trivial⟩) call75 func75 (lOK (aC zbaC aN)) (sg:=⟨[.own 107],[]⟩)
abbrev zE8:=yB×yB×Int×Unit
def zAc (a:yB) (b:yB) (i:Int):Wy zE8 Unit (yB):=.i (decide (i<Int.ofNat b.length)) (.ix i b.length (.bn (zDY a (b.getD i.toNat default)) λr0=>.h ((r0),b,(IntKind.i64.wrap (i+1)),()) ())) (.k a)
def zNB (x:zE8) (y:Unit):=zAc x.1 x.2.1 x.2.2.1
def zZN (n:Nat) (a:yB) (b:yB) (i:Int):=zy (zNB) default n (a,b,i,()) ()
def zbbi (r:yB):LTree ty:=.done (.exit 0) [.sl 107 r] []
def zbdS:LL ty zE8:=za (lSl 107) (za (lSl 107) (za zj zk))
def zbaT (x:zE8) (y:Unit):Nat:=(x.1.length+x.2.1.length+Int.toNat x.2.2.1+1)
def zYp:=zbV base 19 [(75,zHB)] [] [(2,[(0,.sl 107),(1,.keep),(5,.keep)])] [(2,1,(kpL [0]))] [(2,spW zbdS zbaJ (zNB) default zbbi zbaT)] []
theorem zbaH:zC zYp (lp (body f32) 0):=zn (id:=2) (hl:=rfl)
def z2U (a:yB) (b:yB):Wy0 (yB):=.bn (zZN (a.length+b.length+Int.toNat 0+1) a b 0) λr2=>.k r2
def zIm (a:yB) (b:yB):=(z2U a b).fin default
def zbaj (r:yB):ARes ty:=⟨[.pure (.sl 107 r)],[]⟩
def zRU:=zh zTO λx=>((zIm x.1 x.2.1).1,zbaj (zIm x.1 x.2.1).2)
theorem z4K:SdP 32 zRU:=
 sT (cx':=zYp) (zi ⟨zPZ,trivial⟩) call32 func32 (lOK (aC zbaH aN))
def zbdX:=zbp base 20 [(32,zRU),(56,zgw),(194,zmP)]
def zQS (a:yB) (b:yB):Wy0 (yB×Int):=.bn (zfk a) λr3=>.i (!r3) (.k ([],1)) (.bn (zfk b) λr2=>.i (!r2) (.k ([],1)) (.bn (zIm a b) λr1=>.bn (znr r1) λr0=>.k (r0.1,r0.2)))
def zzV (a:yB) (b:yB):=(zQS a b).fin default
def zS5:=zh zTO λx=>((zzV x.1 x.2.1).1,z1u (zzV x.1 x.2.1).2)
theorem z5l:SdP 127 zS5:=
 sT (cx':=zbdX) (zi ⟨z4K,zhh,zoi,trivial⟩) call127 func127 (lOK aN) (sg:=⟨[.pure,.pure],[]⟩)
def z7o:=zbp base 9 []
def zKt (n_:Int):Wy0 (yB):=.i (decide (n_<1)) (.k []) (.k [TO.mk (if 1152921504606846976<n_ then 1152921504606846976 else n_) []])
def zus (n_:Int):=(zKt n_).fin default
def zMz:=zh z16 λx=>((zus x.1).1,z7K (zus x.1).2)
theorem z1l:SdP 201 zMz:=
 sT (cx':=z7o) (zi trivial) call201 func201 (lOK aN) (sg:=⟨[.own 107],[]⟩)
abbrev zy7:=yC×Unit×Int×Unit
abbrev zO5:=yC×Int×Fc
def ztm (l:yC) (i:Int) (f:Fc):Wy zy7 (Fc×Unit) zO5:=.i (decide (i<Int.ofNat l.length)) (.ix i l.length (.bn (zlO (At.et ((l.getD i.toNat default).At)) (At.et f.At)) λr0=>.i (decide (r0<0)) (.h (l,(),(IntKind.i64.wrap (i+1)),()) (f,())) (.k (l,i,f)))) (.k (l,i,f))
def zFj (x:zy7) (y:Fc×Unit):=ztm x.1 x.2.2.1 y.1
def zPh (n:Nat) (l:yC) (i:Int) (f:Fc):=zy (zFj) default n (l,(),i,()) (f,())
def z4r (r:zO5):LTree ty:=.done (.exit 0) [.sl 145 r.1,.ptr 296 0,.lit (.int .i64 r.2.1)] [.box (base.enc 145 r.2.2) false]
def z4U:LL ty zy7:=za (lSl 145) (za (zcm 296 0) (za zj zk))
def z3d (x:zy7) (y:Fc×Unit):Nat:=(x.1.length+Int.toNat x.2.2.1+y.1.At.Ag.length+y.1.At.Items.length+1)
def zPF:=zbV base 74 [(112,zuO)] [] [(2,(kpL [0,3,5]))] [(2,1,(kpL [0,3,5]))] [(2,spW z4U zSJ (zFj) default z4r z3d)] []
theorem z3F:zC zPF (lp (body f287) 0):=zn (id:=2) (hl:=rfl)
def zRR (l:yC) (f:Fc):Wy0 (yC):=.bn (zPh (l.length+Int.toNat 0+f.At.Ag.length+f.At.Items.length+1) l 0 (FO.mk (At.et f.At) f.Exp)) λr3=>.i (decide ((0:Int)<=(0:Int))&&decide (0<=r3.2.1)&&decide (r3.2.1<=Int.ofNat r3.1.length)) (.i (decide ((0+(List.take (r3.2.1.toNat - Int.toNat 0) (List.drop (Int.toNat 0) r3.1)).length)*128<=zD)) (.i (decide (r3.2.1<Int.ofNat r3.1.length)) (.ix r3.2.1 r3.1.length (.bn (zlO (At.et ((r3.1.getD r3.2.1.toNat default).At)) (At.et r3.2.2.At)) λr2=>.i (r2==0) (.i (decide (r3.2.2.At.Kind<3)) (.ix r3.2.1 r3.1.length (.i (decide ((([]++List.take (r3.2.1.toNat - Int.toNat 0) (List.drop (Int.toNat 0) r3.1)).length+[FO.mk (At.et r3.2.2.At) (IntKind.i64.wrap ((r3.1.getD r3.2.1.toNat default).Exp+r3.2.2.Exp))].length)*128<=zD)) (.i (decide (0<=IntKind.i64.wrap (r3.2.1+1))&&decide (IntKind.i64.wrap (r3.2.1+1)<=Int.ofNat r3.1.length)&&decide (Int.ofNat r3.1.length<=Int.ofNat r3.1.length)) (.i (decide ((([]++List.take (r3.2.1.toNat - Int.toNat 0) (List.drop (Int.toNat 0) r3.1)++[FO.mk (At.et r3.2.2.At) (IntKind.i64.wrap ((r3.1.getD r3.2.1.toNat default).Exp+r3.2.2.Exp))]).length+(List.take ((Int.ofNat r3.1.length).toNat - (IntKind.i64.wrap (r3.2.1+1)).toNat) (List.drop (IntKind.i64.wrap (r3.2.1+1)).toNat r3.1)).length)*128<=zD)) (.k ([]++List.take (r3.2.1.toNat - Int.toNat 0) (List.drop (Int.toNat 0) r3.1)++[FO.mk (At.et r3.2.2.At) (IntKind.i64.wrap ((r3.1.getD r3.2.1.toNat default).Exp+r3.2.2.Exp))]++List.take ((Int.ofNat r3.1.length).toNat - (IntKind.i64.wrap (r3.2.1+1)).toNat) (List.drop (IntKind.i64.wrap (r3.2.1+1)).toNat r3.1))) .d) .d) .d)) (.i (decide ((([]++List.take (r3.2.1.toNat - Int.toNat 0) (List.drop (Int.toNat 0) r3.1)).length+[FO.mk (At.et r3.2.2.At) r3.2.2.Exp].length)*128<=zD)) (.i (decide (0<=IntKind.i64.wrap (r3.2.1+1))&&decide (IntKind.i64.wrap (r3.2.1+1)<=Int.ofNat r3.1.length)&&decide (Int.ofNat r3.1.length<=Int.ofNat r3.1.length)) (.i (decide ((([]++List.take (r3.2.1.toNat - Int.toNat 0) (List.drop (Int.toNat 0) r3.1)++[FO.mk (At.et r3.2.2.At) r3.2.2.Exp]).length+(List.take ((Int.ofNat r3.1.length).toNat - (IntKind.i64.wrap (r3.2.1+1)).toNat) (List.drop (IntKind.i64.wrap (r3.2.1+1)).toNat r3.1)).length)*128<=zD)) (.k ([]++List.take (r3.2.1.toNat - Int.toNat 0) (List.drop (Int.toNat 0) r3.1)++[FO.mk (At.et r3.2.2.At) r3.2.2.Exp]++List.take ((Int.ofNat r3.1.length).toNat - (IntKind.i64.wrap (r3.2.1+1)).toNat) (List.drop (IntKind.i64.wrap (r3.2.1+1)).toNat r3.1))) .d) .d) .d)) (.i (decide ((([]++List.take (r3.2.1.toNat - Int.toNat 0) (List.drop (Int.toNat 0) r3.1)).length+[FO.mk (At.et r3.2.2.At) r3.2.2.Exp].length)*128<=zD)) (.i (decide (0<=r3.2.1)&&decide (r3.2.1<=Int.ofNat r3.1.length)&&decide (Int.ofNat r3.1.length<=Int.ofNat r3.1.length)) (.i (decide ((([]++List.take (r3.2.1.toNat - Int.toNat 0) (List.drop (Int.toNat 0) r3.1)++[FO.mk (At.et r3.2.2.At) r3.2.2.Exp]).length+(List.take ((Int.ofNat r3.1.length).toNat - r3.2.1.toNat) (List.drop r3.2.1.toNat r3.1)).length)*128<=zD)) (.k ([]++List.take (r3.2.1.toNat - Int.toNat 0) (List.drop (Int.toNat 0) r3.1)++[FO.mk (At.et r3.2.2.At) r3.2.2.Exp]++List.take ((Int.ofNat r3.1.length).toNat - r3.2.1.toNat) (List.drop r3.2.1.toNat r3.1))) .d) .d) .d))) (.i (decide ((([]++List.take (r3.2.1.toNat - Int.toNat 0) (List.drop (Int.toNat 0) r3.1)).length+[FO.mk (At.et r3.2.2.At) r3.2.2.Exp].length)*128<=zD)) (.i (decide (0<=r3.2.1)&&decide (r3.2.1<=Int.ofNat r3.1.length)&&decide (Int.ofNat r3.1.length<=Int.ofNat r3.1.length)) (.i (decide ((([]++List.take (r3.2.1.toNat - Int.toNat 0) (List.drop (Int.toNat 0) r3.1)++[FO.mk (At.et r3.2.2.At) r3.2.2.Exp]).length+(List.take ((Int.ofNat r3.1.length).toNat - r3.2.1.toNat) (List.drop r3.2.1.toNat r3.1)).length)*128<=zD)) (.k ([]++List.take (r3.2.1.toNat - Int.toNat 0) (List.drop (Int.toNat 0) r3.1)++[FO.mk (At.et r3.2.2.At) r3.2.2.Exp]++List.take ((Int.ofNat r3.1.length).toNat - r3.2.1.toNat) (List.drop r3.2.1.toNat r3.1))) .d) .d) .d)) .d) .d
def zAi (l:yC) (f:Fc):=(zRR l f).fin default
def z4d (r:yC):ARes ty:=⟨[.pure (.sl 145 r)],[]⟩
def z8t:AL base (yC×Fc×Unit):=zd (ze (vSl 145)) (zd (ze (zb7 145)) zp)
def zKJ:=zh z8t λx=>((zAi x.1 x.2.1).1,z4d (zAi x.1 x.2.1).2)
theorem zZK:SdP 287 zKJ:=
 sT (cx':=zPF) (zi ⟨zBe,trivial⟩) call287 func287 (lOK (aC z3F aN))
def z8R:=zbp base 12 []
def zVV (a:Int) (b:Int):Wy0 (Int):=.i (!decide (b=0)) (.i (decide (a>IntKind.i64.wrap (Int.tdiv 1152921504606846976 b))) (.k 1152921504606846976) (.k (IntKind.i64.wrap (a*b)))) .d
def zB3 (a:Int) (b:Int):=(zVV a b).fin default
def zNl:=zh zW3 λx=>((zB3 x.1 x.2.1).1,zQ3 (zB3 x.1 x.2.1).2)
theorem z03:SdP 286 zNl:=
 sT (cx':=z8R) (zi trivial) call286 func286 (lOK aN)
abbrev zxh:=yB×yB×Unit×Int×Int×Unit×Int×Unit
abbrev zxb:=yB×(Int×yC×Unit)×Unit
abbrev zMq:=yB×yB×Int×Int×yB×Int×yC
abbrev zwI:=yB×yB×Unit×Int×Int×Unit
abbrev zij:=yB×Unit
abbrev zMb:=yB×yB×Int×yB
abbrev zxj:=yB×yB×Unit×Int×Unit
def zpo (a:yB) (b:yB) (i:Int) (k:Int) (j:Int) (out_:yB) (t_0:Int) (t_1:yC):Wy zxh zxb zMq:=.ix k b.length (.i (decide (j<Int.ofNat (b.getD k.toNat default).Fs.length)) (.ix k b.length (.ix j ((b.getD k.toNat default).Fs.length) (.bn (zAi t_1 (FO.mk (At.et (((b.getD k.toNat default).Fs.getD j.toNat default).At)) ((b.getD k.toNat default).Fs.getD j.toNat default).Exp)) λr0=>.h (a,b,(),i,k,(),(IntKind.i64.wrap (j+1)),()) (out_,(t_0,(r0),()),())))) (.k (a,b,i,k,out_,t_0,t_1)))
def zBm (x:zxh) (y:zxb):=zpo x.1 x.2.1 x.2.2.2.1 x.2.2.2.2.1 x.2.2.2.2.2.2.1 y.1 y.2.1.1 y.2.1.2.1
def zKQ (n:Nat) (a:yB) (b:yB) (i:Int) (k:Int) (j:Int) (out_:yB) (t_0:Int) (t_1:yC):=zy (zBm) default n (a,b,(),i,k,(),j,()) (out_,(t_0,t_1,()),())
def zYN (r:zMq):LTree ty:=.done (.exit 4) [.sl 107 r.1,.sl 107 r.2.1,.own 264,.lit (.int .i64 r.2.2.1),.lit (.int .i64 r.2.2.2.1),.ptr 265 0] [.arr 107 r.2.2.2.2.1 false,.box ([.lit (.int .i64 r.2.2.2.2.2.1),.sl 145 r.2.2.2.2.2.2]) false]
def z2h:LL ty zxh:=za (lSl 107) (za (lSl 107) (za (zeD 264) (za zj (za zj (za (zcm 265 0) (za zj zk))))))
def z1q:BL ty zxb:=zeG 107 false (zdx (za (zL .i64) (za (lSl 145) zk)) false (zY))
def zrD (a:yB) (b:yB) (i:Int) (k:Int) (out_:yB):Wy zwI zij zMb:=.i (decide (k<Int.ofNat b.length)) (.ix i a.length (.ix k b.length (.bn (zB3 (a.getD i.toNat default).Cf (b.getD k.toNat default).Cf) λr4=>.ix i a.length (.bn (zKQ ((a.length+b.length+i.toNat +k.toNat +Int.toNat 0+out_.length+r4.toNat +(a.getD i.toNat default).Fs.length+1)+zbP a+zbP b+zbP out_+zJW (a.getD i.toNat default).Fs) a b i k 0 out_ r4 (a.getD i.toNat default).Fs) λr3=>.bn (zDY r3.2.2.2.2.1 (TO.mk r3.2.2.2.2.2.1 r3.2.2.2.2.2.2)) λr2=>.h ((r3.1),(r3.2.1),(),(r3.2.2.1),(IntKind.i64.wrap (r3.2.2.2.1+1)),()) ((r2),()))))) (.k (a,b,i,out_))
def zC9 (x:zwI) (y:zij):=zrD x.1 x.2.1 x.2.2.2.1 x.2.2.2.2.1 y.1
def zNZ (n:Nat) (a:yB) (b:yB) (i:Int) (k:Int) (out_:yB):=zy (zC9) default n (a,b,(),i,k,()) (out_,())
def z01 (r:zMb):LTree ty:=.done (.exit 2) [.sl 107 r.1,.sl 107 r.2.1,.own 264,.lit (.int .i64 r.2.2.1)] [.arr 107 r.2.2.2 false]
def z3t:LL ty zwI:=za (lSl 107) (za (lSl 107) (za (zeD 264) (za zj (za zj zk))))
def z3c:BL ty zij:=zeG 107 false (zY)
def zrL (a:yB) (b:yB) (i:Int) (out_:yB):Wy zxj zij (yB):=.i (decide (i<Int.ofNat a.length)) (.bn (zNZ ((a.length+b.length+i.toNat +Int.toNat 0+out_.length+1)+zbP a+zbP b+zbP out_) a b i 0 out_) λr8=>.h ((r8.1),(r8.2.1),(),(IntKind.i64.wrap (r8.2.2.1+1)),()) ((r8.2.2.2),())) (.k out_)
def zDe (x:zxj) (y:zij):=zrL x.1 x.2.1 x.2.2.2.1 y.1
def zMg (n:Nat) (a:yB) (b:yB) (i:Int) (out_:yB):=zy (zDe) default n (a,b,(),i,()) (out_,())
def z1g (r:yB):LTree ty:=.done (.exit 0) [.own 264] [.arr 107 r false]
def z3Q:LL ty zxj:=za (lSl 107) (za (lSl 107) (za (zeD 264) (za zj zk)))
def zZy (x:zxh) (y:zxb):Nat:=((x.1.length+x.2.1.length+Int.toNat x.2.2.2.1+Int.toNat x.2.2.2.2.1+Int.toNat x.2.2.2.2.2.2.1+y.1.length+Int.toNat y.2.1.1+y.2.1.2.1.length+1)+zbP x.1+zbP x.2.1+zbP y.1+zJW y.2.1.2.1)
def z1G (x:zwI) (y:zij):Nat:=((x.1.length+x.2.1.length+Int.toNat x.2.2.2.1+Int.toNat x.2.2.2.2.1+y.1.length+1)+zbP x.1+zbP x.2.1+zbP y.1)
def z1t (x:zxj) (y:zij):Nat:=((x.1.length+x.2.1.length+Int.toNat x.2.2.2.1+y.1.length+1)+zbP x.1+zbP x.2.1+zbP y.1)
def zw9:=zbV base 66 [(75,zHB),(286,zNl),(287,zKJ)] [] [(3,(kpL [0,1,5,6])),(6,(kpL [0,1,5,6,7])),(10,(kpL [0,1,5,6,7,8,9]))] [(3,1,(kpL [5])),(6,3,(kpL [0,1,5,6])),(10,5,(kpL [0,1,5,6,7,8]))] [(10,spW z2h z1q (zBm) default zYN zZy),(6,spW z3t z3c (zC9) default z01 z1G),(3,spW z3Q z3c (zDe) default z1g z1t)] []
theorem zX9:zC zw9 (lp (body f245) 2):=zn (id:=10) (hl:=rfl)
theorem z1w:zC zw9 (lp (body f245) 1):=zn (id:=6) (hl:=rfl)
theorem z1f:zC zw9 (lp (body f245) 0):=zn (id:=3) (hl:=rfl)
def zPd (a:yB) (b:yB):Wy0 (yB):=.bn (zMg ((a.length+b.length+Int.toNat 0+0+1)+zbP a+zbP b+zbP []) a b 0 []) λr10=>.k r10
def zxO (a:yB) (b:yB):=(zPd a b).fin default
def zJl:=zh zTO λx=>((zxO x.1 x.2.1).1,z7K (zxO x.1 x.2.1).2)
theorem zWf:SdP 245 zJl:=
 sT (cx':=zw9) (zi ⟨zPZ,z03,zZK,trivial⟩) call245 func245 (lOK (aC z1f (aC z1w (aC zX9 aN)))) (sg:=⟨[.own 107],[]⟩)
def zbdE:=zbp base 20 [(56,zgw),(194,zmP),(245,zJl)]
def zQY (a:yB) (b:yB):Wy0 (yB×Int):=.bn (zfk a) λr3=>.i (!r3) (.k ([],1)) (.bn (zfk b) λr2=>.i (!r2) (.k ([],1)) (.bn (zxO a b) λr1=>.bn (znr r1) λr0=>.k (r0.1,r0.2)))
def zz0 (a:yB) (b:yB):=(zQY a b).fin default
def zSD:=zh zTO λx=>((zz0 x.1 x.2.1).1,z1u (zz0 x.1 x.2.1).2)
theorem z56:SdP 203 zSD:=
 sT (cx':=zbdE) (zi ⟨zhh,zoi,zWf,trivial⟩) call203 func203 (lOK aN) (sg:=⟨[.pure,.pure],[]⟩)
abbrev zxk:=yB×yE×yB×Int×yB×Int×yB×Int×Int×Unit
abbrev zNe:=yB×yE×yB×Int×yB×Int×Int
abbrev zwP:=yB×yE×yB×Int×yB×Int×Unit
abbrev zL9:=Int⊕(yB×yE×yB×Int×yB)
abbrev zxg:=yB×yE×yB×Int×Unit
abbrev zMd:=Int⊕yB
def zyv (z8:At->yE->Bool×(yB×Int)) (a:yB) (l:yE) (out_:yB) (i:Int) (t:yB) (k:Int) (x_:yB) (e:Int) (n_:Int):Wy zxk Unit zNe:=.ix i a.length (.ix k ((a.getD i.toNat default).Fs.length) (.i (decide (n_<((a.getD i.toNat default).Fs.getD k.toNat default).Exp)) (.i (e==0) (.bn (zz0 t x_) λr8=>.h (a,l,out_,i,(r8.1),k,x_,(r8.2),(IntKind.i64.wrap (n_+1)),()) ()) (.k (a,l,out_,i,t,k,e))) (.k (a,l,out_,i,t,k,e))))
def zGF (z8:At->yE->Bool×(yB×Int)) (x:zxk) (y:Unit):=zyv z8 x.1 x.2.1 x.2.2.1 x.2.2.2.1 x.2.2.2.2.1 x.2.2.2.2.2.1 x.2.2.2.2.2.2.1 x.2.2.2.2.2.2.2.1 x.2.2.2.2.2.2.2.2.1
def zyV (z8:At->yE->Bool×(yB×Int)) (n:Nat) (a:yB) (l:yE) (out_:yB) (i:Int) (t:yB) (k:Int) (x_:yB) (e:Int) (n_:Int):=zy (zGF z8) default n (a,l,out_,i,t,k,x_,e,n_,()) ()
def zUo (r:zNe):LTree ty:=.done (.exit 4) [.sl 107 r.1,.sl 65 r.2.1,.sl 107 r.2.2.1,.lit (.int .i64 r.2.2.2.1),.sl 107 r.2.2.2.2.1,.lit (.int .i64 r.2.2.2.2.2.1),.lit (.int .i64 r.2.2.2.2.2.2)] []
def zWx:LL ty zxk:=za (lSl 107) (za (lSl 65) (za (lSl 107) (za zj (za (lSl 107) (za zj (za (lSl 107) (za zj (za zj zk))))))))
def zzs (z8:At->yE->Bool×(yB×Int)) (a:yB) (l:yE) (out_:yB) (i:Int) (t:yB) (k:Int):Wy zwP Unit zL9:=.ix i a.length (.i (decide (k<Int.ofNat (a.getD i.toNat default).Fs.length)) (.ix i a.length (.ix k ((a.getD i.toNat default).Fs.length) (.bn (z8 (At.et (((a.getD i.toNat default).Fs.getD k.toNat default).At)) l) λr11=>.bn (zyV z8 ((a.length+l.length+out_.length+i.toNat +t.length+k.toNat +r11.1.length+r11.2.toNat +Int.toNat 0+1)+zbP a+zbP out_+zbP t+zbP r11.1) a l out_ i t k r11.1 r11.2 0) λr10=>.i (r10.2.2.2.2.2.2 != 0) (.k (.inl (r10.2.2.2.2.2.2))) (.h ((r10.1),(r10.2.1),(r10.2.2.1),(r10.2.2.2.1),(r10.2.2.2.2.1),(IntKind.i64.wrap (r10.2.2.2.2.2.1+1)),()) ())))) (.k (.inr (a,l,out_,i,t))))
def zI6 (z8:At->yE->Bool×(yB×Int)) (x:zwP) (y:Unit):=zzs z8 x.1 x.2.1 x.2.2.1 x.2.2.2.1 x.2.2.2.2.1 x.2.2.2.2.2.1
def zz4 (z8:At->yE->Bool×(yB×Int)) (n:Nat) (a:yB) (l:yE) (out_:yB) (i:Int) (t:yB) (k:Int):=zy (zI6 z8) (.inl default) n (a,l,out_,i,t,k,()) ()
def zWO (r:zL9):LTree ty:=.ite (isL r) (.done .ret [.lit (.slice none 0 0),.lit (.int .i64 (getL r))] []) (.done (.exit 2) [.sl 107 (getR r).1,.sl 65 (getR r).2.1,.sl 107 (getR r).2.2.1,.lit (.int .i64 (getR r).2.2.2.1),.sl 107 (getR r).2.2.2.2] [])
def zYy:LL ty zwP:=za (lSl 107) (za (lSl 65) (za (lSl 107) (za zj (za (lSl 107) (za zj zk)))))
def zzP (z8:At->yE->Bool×(yB×Int)) (a:yB) (l:yE) (out_:yB) (i:Int):Wy zxg Unit zMd:=.i (decide (i<Int.ofNat a.length)) (.ix i a.length (.bn (zus (a.getD i.toNat default).Cf) λr16=>.bn (zz4 z8 ((a.length+l.length+out_.length+i.toNat +r16.length+Int.toNat 0+1)+zbP a+zbP out_+zbP r16) a l out_ i r16 0) λr15=>.i (isL r15) (.k (.inl (getL r15))) (.bn (zzV (getR r15).2.2.1 (getR r15).2.2.2.2) λr14=>.i (r14.2 != 0) (.k (.inl (r14.2))) (.h ((getR r15).1,(getR r15).2.1,(r14.1),(IntKind.i64.wrap ((getR r15).2.2.2.1+1)),()) ())))) (.k (.inr out_))
def zH9 (z8:At->yE->Bool×(yB×Int)) (x:zxg) (y:Unit):=zzP z8 x.1 x.2.1 x.2.2.1 x.2.2.2.1
def zzt (z8:At->yE->Bool×(yB×Int)) (n:Nat) (a:yB) (l:yE) (out_:yB) (i:Int):=zy (zH9 z8) (.inl default) n (a,l,out_,i,()) ()
def zWj (r:zMd):LTree ty:=.ite (isL r) (.done .ret [.lit (.slice none 0 0),.lit (.int .i64 (getL r))] []) (.done (.exit 0) [.sl 107 (getR r)] [])
def zXP:LL ty zxg:=za (lSl 107) (za (lSl 65) (za (lSl 107) (za zj zk)))
def zTr (x:zxk) (y:Unit):Nat:=((x.1.length+x.2.1.length+x.2.2.1.length+Int.toNat x.2.2.2.1+x.2.2.2.2.1.length+Int.toNat x.2.2.2.2.2.1+x.2.2.2.2.2.2.1.length+Int.toNat x.2.2.2.2.2.2.2.1+Int.toNat x.2.2.2.2.2.2.2.2.1+1)+zbP x.1+zbP x.2.2.1+zbP x.2.2.2.2.1+zbP x.2.2.2.2.2.2.1)
def zXl (x:zwP) (y:Unit):Nat:=((x.1.length+x.2.1.length+x.2.2.1.length+Int.toNat x.2.2.2.1+x.2.2.2.2.1.length+Int.toNat x.2.2.2.2.2.1+1)+zbP x.1+zbP x.2.2.1+zbP x.2.2.2.2.1)
def zWK (x:zxg) (y:Unit):Nat:=((x.1.length+x.2.1.length+x.2.2.1.length+Int.toNat x.2.2.2.1+1)+zbP x.1+zbP x.2.2.1)
def ztt (z8:At->yE->Bool×(yB×Int)):=zbV base 89 [(127,zS5),(201,zMz),(202,(zFe z8)),(203,zSD)] [] [(3,[(0,.keep),(1,.keep),(6,.sl 107),(7,.keep)]),(7,[(0,.keep),(1,.keep),(6,.keep),(7,.keep),(8,.sl 107),(9,.keep)]),(11,[(0,.keep),(1,.keep),(6,.keep),(7,.keep),(8,.sl 107),(9,.keep),(10,.keep),(11,.keep),(12,.keep)])] [(3,1,(kpL [6])),(3,0,(kpL [4,5])),(7,3,(kpL [0,1,6,7,8])),(7,0,(kpL [4,5])),(11,5,(kpL [0,1,6,7,8,9,11]))] [(11,spW zWx zbaJ (zGF z8) default zUo zTr),(7,spW zYy zbaJ (zI6 z8) (.inl default) zWO zXl),(3,spW zXP zbaJ (zH9 z8) (.inl default) zWj zWK)] []
theorem zTS (z8:At->yE->Bool×(yB×Int)):zC (ztt z8) (lp (body f142) 2):=zn (id:=11) (hl:=rfl)
theorem zWp (z8:At->yE->Bool×(yB×Int)):zC (ztt z8) (lp (body f142) 1):=zn (id:=7) (hl:=rfl)
theorem zXs (z8:At->yE->Bool×(yB×Int)):zC (ztt z8) (lp (body f142) 0):=zn (id:=3) (hl:=rfl)
def zKP (z8:At->yE->Bool×(yB×Int)) (a:yB) (l:yE):Wy0 (yB×Int):=.bn (zzt z8 ((a.length+l.length+0+Int.toNat 0+1)+zbP a+zbP []) a l [] 0) λr20=>.i (isL r20) (.k ([],getL r20)) (.k (getR r20,0))
def ztC (z8:At->yE->Bool×(yB×Int)) (a:yB) (l:yE):=(zKP z8 a l).fin default
theorem zSe (z8:At->yE->Bool×(yB×Int)) (z8v:SdP 202 (zFe z8)):SdP 142 (ztN (ztC z8)):=
 sT (cx':=(ztt z8)) (zi ⟨z5l,z1l,z8v,z56,trivial⟩) call142 func142 (lOK (aC (zXs z8) (aC (zWp z8) (aC (zTS z8) aN)))) (sg:=⟨[.pure,.pure],[]⟩)
def zFv:Nat->(yB->yE->Bool×(yB×Int))×(At->yE->Bool×(yB×Int))
 | 0=>(λ_ _=>(false,default),λ_ _=>(false,default))
 | n+1=>(ztC ((zFv n).2),zAo ((zFv n).1))
def zti (n:Nat):yB->yE->Bool×(yB×Int):=(zFv n).1
def zAh (n:Nat):At->yE->Bool×(yB×Int):=(zFv n).2
theorem zX1 (n:Nat):zti (n+1)=ztC (zAh n):=rfl
theorem z41 (n:Nat):zAh (n+1)=zAo (zti n):=rfl
theorem zSU:∀ n,SdP 142 (ztN (zti n))/\SdP 202 (zFe (zAh n))
 | 0=>⟨zbl call142 (λ_=>rfl),zbl call202 (λ_=>rfl)⟩
 | n+1=>by
  have ih:=zSU n;exact ⟨zSe _ (ih.2),z0n _ (ih.1)⟩
def zJK:yB->yE->Bool×(yB×Int):=zti 1000
def zIh:Ab.Spec ty:=ztN zJK
theorem zWG:SdP 142 zIh:=(zSU 1000).1
abbrev zr3:=yB×yE×Int×Unit
abbrev zGA:=Int⊕(yB×yE)
def zyu (a:yB) (l:yE) (i:Int):Wy zr3 Unit zGA:=.i (decide (i<Int.ofNat l.length)) (.ix i l.length (.bn (zfk (l.getD i.toNat default).To) λr0=>.i (!r0) (.k (.inl 1)) (.h (a,l,(IntKind.i64.wrap (i+1)),()) ()))) (.k (.inr (a,l)))
def zGL (x:zr3) (y:Unit):=zyu x.1 x.2.1 x.2.2.1
def zyK (n:Nat) (a:yB) (l:yE) (i:Int):=zy (zGL) (.inl default) n (a,l,i,()) ()
def zUw (r:zGA):LTree ty:=.ite (isL r) (.done .ret [.lit (.slice none 0 0),.lit (.int .i64 (getL r))] []) (.done (.exit 0) [.sl 107 (getR r).1,.sl 65 (getR r).2] [])
def zXo:LL ty zr3:=za (lSl 107) (za (lSl 65) (za zj zk))
def zVf (x:zr3) (y:Unit):Nat:=(x.1.length+x.2.1.length+Int.toNat x.2.2.1+1)
def zGy:=zbV base 28 [(56,zgw),(142,zIh)] [] [(4,(kpL [0,1,6]))] [(4,1,(kpL [0,1])),(4,0,(kpL [4,5]))] [(4,spW zXo zbaJ (zGL) (.inl default) zUw zVf)] []
theorem zUs:zC zGy (lp (body f81) 0):=zn (id:=4) (hl:=rfl)
def zIz (a:yB) (l:yE):Wy0 (yB×Int):=.bn (zfk a) λr4=>.i (!r4) (.k ([],1)) (.bn (zyK (a.length+l.length+Int.toNat 0+1) a l 0) λr3=>.i (isL r3) (.k ([],getL r3)) (.bn (zJK (getR r3).1 (getR r3).2) λr2=>.k (r2.1,r2.2)))
def zmV (a:yB) (l:yE):=(zIz a l).fin default
def zDF:=zh z5C λx=>((zmV x.1 x.2.1).1,z1u (zmV x.1 x.2.1).2)
theorem zQG:SdP 81 zDF:=
 sT (cx':=zGy) (zi ⟨zhh,zWG,trivial⟩) call81 func81 (lOK (aC zUs aN)) (sg:=⟨[.pure,.pure],[]⟩)
abbrev zCX:=yH×Int×Unit
abbrev zN4:=Bool⊕yH
def zCN (l:yH) (i:Int):Wy zCX Unit zN4:=.i (decide (i<Int.ofNat l.length)) (.ix i l.length (.i (decide ((l.getD i.toNat default).Type_<0)) (.k (.inl false)) (.ix i l.length (.i (decide ((l.getD i.toNat default).Type_>2)) (.k (.inl false)) (.h (l,(IntKind.i64.wrap (i+1)),()) ()))))) (.k (.inr l))
def zCJ (x:zCX) (y:Unit):=zCN x.1 x.2.1
def zMw (n:Nat) (l:yH) (i:Int):=zy (zCJ) (.inl default) n (l,i,()) ()
def z17 (r:zN4):LTree ty:=.ite (isL r) (.done .ret [.lit (.bool (getL r))] []) (.done (.exit 0) [.sl 75 (getR r)] [])
def z4u:LL ty zCX:=za (lSl 75) (za zj zk)
def zL8:=zbV base 27 [] [] [(2,(kpL [0,3]))] [(2,1,(kpL [0])),(2,0,(kpL [2]))] [(2,spW z4u zbaJ (zCJ) (.inl default) z17 λx y=>(x.1.length+Int.toNat x.2.1+1))] []
theorem z12:zC zL8 (lp (body f54) 0):=zn (id:=2) (hl:=rfl)
def zPI (l:yH):Wy0 (Bool):=.bn (zMw (l.length+Int.toNat 0+1) l 0) λr0=>.i (isL r0) (.k (getL r0)) (.k (decide (Int.ofNat (getR r0).length<=16)))
def zxA (l:yH):=(zPI l).fin default
def zJC:=zh zOv λx=>((zxA x.1).1,zXz (zxA x.1).2)
theorem zWQ:SdP 54 zJC:=
 sT (cx':=zL8) (zi trivial) call54 func54 (lOK (aC z12 aN))
abbrev zCE:=yH×yG×Int×Unit
def zx4 (l:yH) (row:yG) (i:Int):Wy zCE Unit (Bool⊕Unit):=.i (decide (i<Int.ofNat l.length)) (.ix i row.length (.bn (zuu (row.getD i.toNat default)) λr0=>.i (!r0) (.k (.inl false)) (.ix i row.length (.ix i l.length (.i ((row.getD i.toNat default).Kind != (l.getD i.toNat default).Type_) (.k (.inl false)) (.h (l,row,(IntKind.i64.wrap (i+1)),()) ())))))) (.k (.inr ()))
def zKl (x:zCE) (y:Unit):=zx4 x.1 x.2.1 x.2.2.1
def zVT (n:Nat) (l:yH) (row:yG) (i:Int):=zy (zKl) (.inl default) n (l,row,i,()) ()
def zbaV:LL ty zCE:=za (lSl 75) (za (lSl 79) (za zj zk))
def z7s (x:zCE) (y:Unit):Nat:=(x.1.length+x.2.1.length+Int.toNat x.2.2.1+1)
def zV5:=zbV base 36 [(108,zC6)] [] [(4,(kpL [0,1,5]))] [(4,1,[]),(4,0,(kpL [4]))] [(4,spW zbaV zbaJ (zKl) (.inl default) znV z7s)] []
theorem z8j:zC zV5 (lp (body f55) 0):=zn (id:=4) (hl:=rfl)
def zZ2 (l:yH) (row:yG):Wy0 (Bool):=.i (Int.ofNat l.length != Int.ofNat row.length) (.k false) (.bn (zVT (l.length+row.length+Int.toNat 0+1) l row 0) λr2=>.i (isL r2) (.k (getL r2)) (.k true))
def zFR (l:yH) (row:yG):=(zZ2 l row).fin default
def zPG:=zh z8c λx=>((zFR x.1 x.2.1).1,zXz (zFR x.1 x.2.1).2)
theorem z4A:SdP 55 zPG:=
 sT (cx':=zV5) (zi ⟨zKN,trivial⟩) call55 func55 (lOK (aC z8j aN))
abbrev zAA:=Unit×Int×Unit
abbrev zvB:=Relation×Unit
def zvl (i:Int) (r:Relation):Wy zAA zvB (Bool⊕Unit):=.i (decide (i<Int.ofNat r.Rows.length)) (.ix i r.Rows.length (.bn (zFR r.Columns (r.Rows.getD i.toNat default).Values) λr2=>.i (!r2) (.k (.inl false)) (.i (Int.ofNat (r.Rows.getD i.toNat default).Ann.length==0) (.k (.inl false)) (.bn (zfk (r.Rows.getD i.toNat default).Ann) λr1=>.i (!r1) (.k (.inl false)) (.i (decide (i>0)) (.ix (IntKind.i64.wrap (i - 1)) r.Rows.length (.bn (zlS (r.Rows.getD (IntKind.i64.wrap (i - 1)).toNat default).Values (r.Rows.getD i.toNat default).Values) λr0=>.i (decide (r0≥0)) (.k (.inl false)) (.h ((),(IntKind.i64.wrap (i+1)),()) (r,())))) (.h ((),(IntKind.i64.wrap (i+1)),()) (r,()))))))) (.k (.inr ()))
def zHM (x:zAA) (y:zvB):=zvl x.2.1 y.1
def zRV (n:Nat) (i:Int) (r:Relation):=zy (zHM) (.inl default) n ((),i,()) (r,())
def z8f:LL ty zAA:=za (zcm 248 0) (za zj zk)
def z7v:BL ty zvB:=zdx (zdi (λx=>(⟨x.1,x.2.1⟩:Relation)) (λx=>(x.Columns,x.Rows,())) (λ_=>rfl) (za (lSl 75) (za (lSl 54) zk))) false (zY)
def z5a (x:zAA) (y:zvB):Nat:=(Int.toNat x.2.1+y.1.Columns.length+y.1.Rows.length+1)
def zRl:=zbV base 62 [(54,zJC),(55,zPG),(56,zgw),(57,zuI)] [] [(4,(kpL [1,3]))] [(4,1,[]),(4,0,(kpL [2]))] [(4,spW z8f z7v (zHM) (.inl default) znV z5a)] []
theorem z6i:zC zRl (lp (body f15) 0):=zn (id:=4) (hl:=rfl)
def zVJ (r:Relation):Wy0 (Bool):=.bn (zxA r.Columns) λr7=>.i (!r7) (.k false) (.i (decide (Int.ofNat r.Rows.length>1024)) (.k false) (.bn (zRV (Int.toNat 0+r.Columns.length+r.Rows.length+1) 0 r) λr6=>.i (isL r6) (.k (getL r6)) (.k true)))
def zBR (r:Relation):=(zVJ r).fin default
def zbai:AL base zvB:=zd (ze (zb7 25)) zp
def zNS:=zh zbai λx=>((zBR x.1).1,zXz (zBR x.1).2)
theorem z1m:SdP 15 zNS:=
 sT (cx':=zRl) (zi ⟨zWQ,z4A,zhh,zA9,trivial⟩) call15 func15 (lOK (aC z6i aN))
abbrev zr6:=yE×Unit×Unit×Unit×Int×Unit
abbrev zsb:=Relation×(Unit×Unit×Unit)×(yH×Unit×Unit)×yF×Unit
abbrev zGt:=Int⊕(yH×yF)
def zmz (l:yE) (i:Int) (r:Relation) (out_:yH) (b3:yF):Wy zr6 zsb zGt:=.i (decide (i<Int.ofNat r.Rows.length)) (.ix i r.Rows.length (.bn (zmV (r.Rows.getD i.toNat default).Ann l) λr0=>.i (r0.2 != 0) (.k (.inl (r0.2))) (.i (decide (Int.ofNat r0.1.length>0)) (.ix i r.Rows.length (.i (decide ((b3.length+[Row.mk (r.Rows.getD i.toNat default).Values r0.1].length)*48<=zD)) (.h (l,(),(),(),(IntKind.i64.wrap (i+1)),()) (r,((),(),()),(out_,(),()),(b3++[Row.mk (r.Rows.getD i.toNat default).Values r0.1]),())) .d)) (.h (l,(),(),(),(IntKind.i64.wrap (i+1)),()) (r,((),(),()),(out_,(),()),b3,()))))) (.k (.inr (out_,b3)))
def zyx (x:zr6) (y:zsb):=zmz x.1 x.2.2.2.2.1 y.1 y.2.2.1.1 y.2.2.2.1
def zGC (n:Nat) (l:yE) (i:Int) (r:Relation) (out_:yH) (b3:yF):=zy (zyx) (.inl default) n (l,(),(),(),i,()) (r,((),(),()),(out_,(),()),b3,())
def zUZ (r:zGt):LTree ty:=.ite (isL r) (.done .ret [.ptr 224 0,.lit (.int .i64 (getL r))] [.box ([.lit (.slice none 0 0),.lit (.slice none 0 0)]) false]) (.done (.exit 0) [.ptr 224 0,.ptr 225 0] [.box ([.lit (.slice none 0 0),.lit (.slice none 0 0)]) false,.box ([.sl 75 (getR r).1,.own 226]) false,.arr 54 (getR r).2 false])
def zXq:LL ty zr6:=za (lSl 65) (za (zcm 224 0) (za (zcm 225 0) (za (zcm 226 0) (za zj zk))))
def zXn:BL ty zsb:=zdx (zdi (λx=>(⟨x.1,x.2.1⟩:Relation)) (λx=>(x.Columns,x.Rows,())) (λ_=>rfl) (za (lSl 75) (za (lSl 54) zk))) false (zdx (za zJF (za zJF zk)) false (zdx (za (lSl 75) (za (zeD 227) zk)) false (zeG 54 false (zY))))
def zTM (x:zr6) (y:zsb):Nat:=(x.1.length+Int.toNat x.2.2.2.2.1+y.1.Columns.length+y.1.Rows.length+y.2.2.1.1.length+y.2.2.2.1.length+1)
def zGS:=zbV base 56 [(15,zNS),(81,zDF)] [] [(5,[(1,.keep),(2,.keep),(4,.keep),(6,.boxOwn [(1,54)]),(7,.keep)])] [(5,1,(kpL [4,6])),(5,0,(kpL [4,5]))] [(5,spW zXq zXn (zyx) (.inl default) zUZ zTM)] []
theorem zUY:zC zGS (lp (body f38) 0):=zn (id:=5) (hl:=rfl)
def zIN (r:Relation) (l:yE):Wy0 (Relation×Int):=.bn (zBR r) λr3=>.i (!r3) (.k ((⟨[],[]⟩:Relation),1)) (.bn (zGC (l.length+Int.toNat 0+r.Columns.length+r.Rows.length+r.Columns.length+0+1) l 0 r r.Columns []) λr2=>.i (isL r2) (.k ((⟨[],[]⟩:Relation),getL r2)) (.k ((⟨(getR r2).1,(getR r2).2⟩:Relation),0)))
def zra (r:Relation) (l:yE):=(zIN r l).fin default
def zZT:AL base (Relation×yE×Unit):=zd (ze (zb7 25)) (zd (ze (vSl 65)) zp)
def zEa:=zh zZT λx=>((zra x.1 x.2.1).1,zQ2 (zra x.1 x.2.1).2)
theorem zQr:SdP 38 zEa:=
 sT (cx':=zGS) (zi ⟨z1m,zQG,trivial⟩) call38 func38 (lOK (aC zUY aN)) (sg:=⟨[.pure,.pure],[]⟩)
def zNn:=zbp base 10 []
def zOy (c:Column) (d:Column):Wy0 (Bool):=.k (c.Type_==d.Type_)
def zoE (c:Column) (d:Column):=(zOy c d).fin default
def zOT:AL base (Column×Column×Unit):=zd (ze (zb7 75)) (zd (ze (zb7 75)) zp)
def zoN:=zh zOT λx=>((zoE x.1 x.2.1).1,zXz (zoE x.1 x.2.1).2)
theorem zwu:SdP 120 zoN:=
 sT (cx':=zNn) (zi trivial) call120 func120 (lOK aN)
abbrev zcl:=yH×Unit×yH×Int×Int×Unit
def zbC (s2:yH) (t15:yH) (t16:Int) (t17:Int):Wy zcl Unit (Bool⊕Unit):=.i (decide (t17<t16)) (.ix t17 t15.length (.ix t17 s2.length (.i (!(zoE (t15.getD t17.toNat default) (s2.getD t17.toNat default)).2) (.k (.inl false)) (.h (s2,(),t15,t16,(IntKind.i64.wrap (t17+1)),()) ())))) (.k (.inr ()))
def zcS (x:zcl) (y:Unit):=zbC x.1 x.2.2.1 x.2.2.2.1 x.2.2.2.2.1
def zeJ (n:Nat) (s2:yH) (t15:yH) (t16:Int) (t17:Int):=zy (zcS) (.inl default) n (s2,(),t15,t16,t17,()) ()
def zj8:LL ty zcl:=za (lSl 75) (za (lFn 120 (zk)) (za (lSl 75) (za zj (za zj zk))))
def zjW (x:zcl) (y:Unit):Nat:=(x.1.length+x.2.2.1.length+Int.toNat x.2.2.2.1+Int.toNat x.2.2.2.2.1+1000)
def zeH:=zbV base 32 [(120,zoN)] [] [(4,(kpL [1,2,15,16,17]))] [(4,1,[]),(4,0,(kpL [6]))] [(4,spW zj8 zbaJ (zcS) (.inl default) znV zjW)] []
theorem zjS:zC zeH (lp (body f119) 0):=zn (id:=4) (hl:=rfl)
def zeL (s1:yH) (s2:yH):Wy0 (Bool):=.i (Int.ofNat s1.length != Int.ofNat s2.length) (.k false) (.bn (zeJ (s2.length+s1.length+(Int.ofNat s1.length).toNat +Int.toNat 0+1000) s2 s1 (Int.ofNat s1.length) 0) λr0=>.i (isL r0) (.k (getL r0)) (.k true))
def zb9 (s1:yH) (s2:yH):=(zeL s1 s2).fin default
def zkm:AL base (yH×yH×Unit×Unit):=zd (ze (vSl 75)) (zd (ze (vSl 75)) (zd (ze (vFn 120 zdg)) zp))
def zev:=zh zkm λx=>((zb9 x.1 x.2.1).1,zXz (zb9 x.1 x.2.1).2)
theorem zjn:SdP 119 zev:=
 sT (cx':=zeH) (zi ⟨zwu,trivial⟩) call119 func119 (lOK (aC zjS aN))
def zSr:=zbp base 8 [(119,zev),(120,zoN)]
def zER (a:yH) (b:yH):Wy0 (Bool):=.bn (zb9 a b) λr0=>.k r0
def zn4 (a:yH) (b:yH):=(zER a b).fin default
def zA8:=zh zzj λx=>((zn4 x.1 x.2.1).1,zXz (zn4 x.1 x.2.1).2)
theorem zMe:SdP 65 zA8:=
 sT (cx':=zSr) (zi ⟨zjn,zwu,trivial⟩) call65 func65 (lOK aN)
def zEx:=zbp base 27 []
def zug (n_:Int):Wy0 (yF):=.i (decide (n_<0)) .d (.i (decide (IntKind.i64.wrap (n_ - IntKind.i64.wrap (0 - 0))>0)) (.i (decide (0<IntKind.i64.wrap (n_ - IntKind.i64.wrap (0 - 0)))&&(decide (IntKind.i64.wrap (n_ - IntKind.i64.wrap (0 - 0))*Int.ofNat 48<=Int.ofNat zD)&&(decide (IntKind.i64.wrap (n_ - IntKind.i64.wrap (0 - 0))<=Int.ofNat zD)&& !Nat.beq 2 0))) (.k (List.take (Int.toNat 0 - Int.toNat 0) (List.replicate (IntKind.i64.wrap (n_ - IntKind.i64.wrap (0 - 0))).toNat (Row.mk [] [])))) .d) (.k []))
def zfX (n_:Int):=(zug n_).fin default
def zCT (r:yF):ARes ty:=⟨[.own 54 r],[]⟩
def zqx:=zh zzi λx=>((zfX x.2.1).1,zCT (zfX x.2.1).2)
theorem zBi:SdP 121 zqx:=
 sT (cx':=zEx) (zi trivial) call121 func121 (lOK aN) (sg:=⟨[.own 54],[]⟩)
abbrev zia:=List (yF)×Int×List (yF)×Int×Int×Unit
abbrev zuX:=List (yF)×Int
abbrev zie:=Unit×List (yF)×Int×Int×Unit
abbrev zh9:=yF×Unit
def zeB (slices:List (yF)) (size:Int) (t9:List (yF)) (t10:Int) (t11:Int):Wy zia Unit zuX:=.i (decide (t11<t10)) (.ix t11 t9.length (.i (decide (IntKind.i64.wrap (size+Int.ofNat (List.length (t9.getD t11.toNat default)))<0)) .d (.h (slices,(IntKind.i64.wrap (size+Int.ofNat (List.length (t9.getD t11.toNat default)))),t9,t10,(IntKind.i64.wrap (t11+1)),()) ()))) (.k (slices,size))
def zj0 (x:zia) (y:Unit):=zeB x.1 x.2.1 x.2.2.1 x.2.2.2.1 x.2.2.2.2.1
def zqD (n:Nat) (slices:List (yF)) (size:Int) (t9:List (yF)) (t10:Int) (t11:Int):=zy (zj0) default n (slices,size,t9,t10,t11,()) ()
def zBn (r:zuX):LTree ty:=.done (.exit 0) [.sl 23 r.1,.lit (.int .i64 r.2)] []
def zCg:LL ty zia:=za (lSl 23) (za zj (za (lSl 23) (za zj (za zj zk))))
def zem (t25:List (yF)) (t26:Int) (t27:Int) (newslice:yF):Wy zie zh9 (yF):=.i (decide (t27<t26)) (.ix t27 t25.length (.i (decide ((newslice.length+List.length (t25.getD t27.toNat default))*48<=zD)) (.h ((),t25,t26,(IntKind.i64.wrap (t27+1)),()) ((newslice++t25.getD t27.toNat default),())) .d)) (.k newslice)
def zjo (x:zie) (y:zh9):=zem x.2.1 x.2.2.1 x.2.2.2.1 y.1
def zpy (n:Nat) (t25:List (yF)) (t26:Int) (t27:Int) (newslice:yF):=zy (zjo) default n ((),t25,t26,t27,()) (newslice,())
def zAO (r:yF):LTree ty:=.done (.exit 2) [.own 144] [.arr 54 r false]
def zBl:LL ty zie:=za (zeD 144) (za (lSl 23) (za zj (za zj zk)))
def zBB:BL ty zh9:=zeG 54 false (zY)
def zBJ (x:zia) (y:Unit):Nat:=(x.1.length+Int.toNat x.2.1+x.2.2.1.length+Int.toNat x.2.2.2.1+Int.toNat x.2.2.2.2.1+1000)
def zAF (x:zie) (y:zh9):Nat:=(x.2.1.length+Int.toNat x.2.2.1+Int.toNat x.2.2.2.1+y.1.length+1000)
def zj5:=zbV base 36 [(121,zqx)] [] [(3,(kpL [0,3,9,10,11])),(11,(kpL [6,25,26,27]))] [(3,1,(kpL [0,3])),(11,3,(kpL [6]))] [(3,spW zCg zbaJ (zj0) default zBn zBJ),(11,spW zBl zBB (zjo) default zAO zAF)] [121]
theorem zBD:zC zj5 (lp (body f66) 0):=zn (id:=3) (hl:=rfl)
theorem zAq:zC zj5 (lp (body f66) 1):=zn (id:=11) (hl:=rfl)
def zrT (slices:List (yF)):Wy0 (yF):=.bn (zqD (slices.length+Int.toNat 0+slices.length+(Int.ofNat slices.length).toNat +Int.toNat 0+1000) slices 0 slices (Int.ofNat slices.length) 0) λr2=>.bn (zfX r2.2) λr1=>.bn (zpy (r2.1.length+(Int.ofNat r2.1.length).toNat +Int.toNat 0+r1.length+1000) r2.1 (Int.ofNat r2.1.length) 0 r1) λr0=>.k r0
def zea (slices:List (yF)):=(zrT slices).fin default
def zCK:AL base (List (yF)×Unit):=zd (ze (vSl 23)) zp
def zod:=zh zCK λx=>((zea x.1).1,zCT (zea x.1).2)
theorem zzF:SdP 66 zod:=
 sT (cx':=zj5) (zi ⟨zBi,trivial⟩) call66 func66 (lOK (aC zBD (aC zAq aN))) (sg:=⟨[.own 54],[]⟩)
def z6J:=zbp zby 34 [(14,zmD),(28,zs2),(65,zA8),(66,zod)]
def zRC (a:Relation) (b:Relation):Wy0 (Relation×Int):=.bn (zkD a) λr4=>.i (!r4) (.k ((⟨[],[]⟩:Relation),1)) (.bn (zkD b) λr3=>.i (!r3) (.k ((⟨[],[]⟩:Relation),1)) (.bn (zn4 a.Columns b.Columns) λr2=>.i (!r2) (.k ((⟨[],[]⟩:Relation),7)) (.bn (zea [a.Rows,b.Rows]) λr1=>.bn (znF (Relation.mk a.Columns r1)) λr0=>.k (r0.1,r0.2))))
def zvZ (a:Relation) (b:Relation):=(zRC a b).fin default
def z7R:AL zby (Relation×Relation×Unit):=zd (ze (zb7 25)) (zd (ze (zb7 25)) zp)
def zKA:=zh z7R λx=>((zvZ x.1 x.2.1).1,zQ2 (zvZ x.1 x.2.1).2)
theorem zXF:Sound Tryz.prog zby 26 zKA:=
 sU (cx':=z6J) (zi ⟨zqn.nodr,zzL,zMe.nodr,zzF.nodr,trivial⟩) call26 func26 (lOK aN) (sg:=⟨[.pure,.pure],[]⟩)
def z2d:=zbp base 6 [(61,zgF)]
def zNw (columns:yH):Wy0 (yH):=.bn (zcp columns) λr0=>.k r0
def zvL (columns:yH):=(zNw columns).fin default
def zXZ (r:yH):ARes ty:=⟨[.pure (.agg ([.sl 75 r,.lit (.slice none 0 0)]))],[]⟩
def zGG:=zh zOv λx=>((zvL x.1).1,zXZ (zvL x.1).2)
theorem zUV:SdP 27 zGG:=
 sT (cx':=z2d) (zi ⟨zk3,trivial⟩) call27 func27 (lOK aN) (sg:=⟨[.raw],[]⟩)
abbrev zna:=yE×Unit×Unit×yF×Int×Int×Unit
abbrev znc:=(Unit×Unit×Unit)×(yH×Unit×Unit)×yF×Unit
abbrev zBV:=Int⊕(yH×yF)
def zjN (l:yE) (t19:yF) (t20:Int) (t21:Int) (out_:yH) (b2:yF):Wy zna znc zBV:=.i (decide (t21<t20)) (.ix t21 t19.length (.bn (zfZ (t19.getD t21.toNat default).Ann l) λr1=>.i (r1.2 != 0) (.k (.inl (r1.2))) (.i (decide (Int.ofNat r1.1.length>0)) (.bn (zcI (t19.getD t21.toNat default).Values) λr0=>.i (decide ((b2.length+[Row.mk r0 r1.1].length)*48<=zD)) (.h (l,(),(),t19,t20,(IntKind.i64.wrap (t21+1)),()) (((),(),()),(out_,(),()),(b2++[Row.mk r0 r1.1]),())) .d) (.h (l,(),(),t19,t20,(IntKind.i64.wrap (t21+1)),()) (((),(),()),(out_,(),()),b2,()))))) (.k (.inr (out_,b2)))
def zur (x:zna) (y:znc):=zjN x.1 x.2.2.2.1 x.2.2.2.2.1 x.2.2.2.2.2.1 y.2.1.1 y.2.2.1
def zCh (n:Nat) (l:yE) (t19:yF) (t20:Int) (t21:Int) (out_:yH) (b2:yF):=zy (zur) (.inl default) n (l,(),(),t19,t20,t21,()) (((),(),()),(out_,(),()),b2,())
def zOJ (r:zBV):LTree ty:=.ite (isL r) (.done .ret [.ptr 204 0,.lit (.int .i64 (getL r))] [.box ([.lit (.slice none 0 0),.lit (.slice none 0 0)]) false]) (.done (.exit 0) [.ptr 204 0,.ptr 205 0] [.box ([.lit (.slice none 0 0),.lit (.slice none 0 0)]) false,.box ([.sl 75 (getR r).1,.own 206]) false,.arr 54 (getR r).2 false])
def zQb:LL ty zna:=za (lSl 65) (za (zcm 204 0) (za (zcm 205 0) (za (lSl 54) (za zj (za zj zk)))))
def zQ7:BL ty znc:=zdx (za zJF (za zJF zk)) false (zdx (za (lSl 75) (za (zeD 206) zk)) false (zeG 54 false (zY)))
def zOg (x:zna) (y:znc):Nat:=(x.1.length+x.2.2.2.1.length+Int.toNat x.2.2.2.2.1+Int.toNat x.2.2.2.2.2.1+y.2.1.1.length+y.2.2.1.length+1000)
def zB2:=zbV zby 51 [(14,zmD),(27,zGG),(62,zhw),(80,zo1)] [] [(5,[(1,.keep),(4,.keep),(6,.boxOwn [(1,54)]),(19,.keep),(20,.keep),(21,.keep)])] [(5,1,(kpL [4,6])),(5,0,(kpL [4,5]))] [(5,spW zQb zQ7 (zur) (.inl default) zOJ zOg)] []
theorem zOH:zC zB2 (lp (body f37) 0):=zn (id:=5) (hl:=rfl)
def zDU (r:Relation) (l:yE):Wy0 (Relation×Int):=.bn (zkD r) λr6=>.i (!r6) (.k ((⟨[],[]⟩:Relation),1)) (.bn (zvL r.Columns) λr5=>.bn (zCh (l.length+r.Rows.length+(Int.ofNat r.Rows.length).toNat +Int.toNat 0+r5.length+0+1000) l r.Rows (Int.ofNat r.Rows.length) 0 r5 []) λr4=>.i (isL r4) (.k ((⟨[],[]⟩:Relation),getL r4)) (.k ((⟨(getR r4).1,(getR r4).2⟩:Relation),0)))
def zht (r:Relation) (l:yE):=(zDU r l).fin default
def zTg:AL zby (Relation×yE×Unit):=zd (ze (zb7 25)) (zd (ze (vSl 65)) zp)
def zzA:=zh zTg λx=>((zht x.1 x.2.1).1,zQ2 (zht x.1 x.2.1).2)
theorem zLy:Sound Tryz.prog zby 37 zzA:=
 sU (cx':=zB2) (zi ⟨zqn.nodr,zUV.nodr,zl2.nodr,zwr,trivial⟩) call37 func37 (lOK (aC zOH aN)) (sg:=⟨[.pure,.pure],[]⟩)
abbrev zh8:=yE×Unit×Unit×Int×Unit
abbrev zb5:=Relation×Relation×Unit
abbrev zuZ:=Bool⊕(yE×Relation×Relation)
abbrev zme:=yE×Unit×Unit×Unit×Unit
abbrev zes:=Relation×Relation×Relation×Unit
abbrev zl8:=yE×Unit×Unit×Unit×Int×Unit
abbrev zer:=yE×Unit×Unit×Unit
def zl6 (l:yE) (i:Int) (a:Relation) (b:Relation):Wy zh8 zb5 zuZ:=.i (decide (i<Int.ofNat l.length)) (.ix i l.length (.bn (zwo 12 [(l.getD i.toNat default).To]) λr0=>.i (!r0) (.k (.inl true)) (.h (l,(),(),(IntKind.i64.wrap (i+1)),()) (a,b,())))) (.k (.inr (l,a,b)))
def zmf (x:zh8) (y:zb5):=zl6 x.1 x.2.2.2.1 y.1 y.2.1
def zuP (n:Nat) (l:yE) (i:Int) (a:Relation) (b:Relation):=zy (zmf) (.inl default) n (l,(),(),i,()) (a,b,())
def zFP (r:zuZ):LTree ty:=.ite (isL r) (.done .ret [.lit (.bool (getL r))] []) (.done (.exit 0) [.sl 65 (getR r).1,.ptr 436 0,.ptr 437 0] [.box (base.enc 25 (getR r).2.1) false,.box (base.enc 25 (getR r).2.2) false])
def zGo:LL ty zh8:=za (lSl 65) (za (zcm 436 0) (za (zcm 437 0) (za zj zk)))
def zF7:BL ty zb5:=zdx (zdi (λx=>(⟨x.1,x.2.1⟩:Relation)) (λx=>(x.Columns,x.Rows,())) (λ_=>rfl) (za (lSl 75) (za (lSl 54) zk))) false (zdx (zdi (λx=>(⟨x.1,x.2.1⟩:Relation)) (λx=>(x.Columns,x.Rows,())) (λ_=>rfl) (za (lSl 75) (za (lSl 54) zk))) false (zY))
def zlG (l:yE) (x_:Relation) (z:Relation) (sum:Relation):Wy zme zes (Bool):=.bn (zht sum l) λr4=>.bn (zvZ x_ z) λr3=>.i (r4.2 != 0) (.k true) (.i (r3.2 != 0) (.k true) (.bn (zqZ r4.1 r3.1) λr2=>.k r2))
def zlm (x:zme) (y:zes):=zlG x.1 y.1 y.2.1 y.2.2.1
def zt8 (n:Nat) (l:yE) (x_:Relation) (z:Relation) (sum:Relation):=zy (zlm) default n (l,(),(),(),()) (x_,z,sum,())
def zEq (r:Bool):LTree ty:=.done .ret [.lit (.bool r)] []
def zFX:LL ty zme:=za (lSl 65) (za (zcm 436 0) (za (zcm 437 0) (za (zcm 438 0) zk)))
def zEO:BL ty zes:=zdx (zdi (λx=>(⟨x.1,x.2.1⟩:Relation)) (λx=>(x.Columns,x.Rows,())) (λ_=>rfl) (za (lSl 75) (za (lSl 54) zk))) false (zdx (zdi (λx=>(⟨x.1,x.2.1⟩:Relation)) (λx=>(x.Columns,x.Rows,())) (λ_=>rfl) (za (lSl 75) (za (lSl 54) zk))) false (zdx (zdi (λx=>(⟨x.1,x.2.1⟩:Relation)) (λx=>(x.Columns,x.Rows,())) (λ_=>rfl) (za (lSl 75) (za (lSl 54) zk))) false (zY)))
def zlo (l:yE) (e:Int) (a:Relation) (b:Relation) (x_:Relation):Wy zl8 zes (Bool):=.bn (zht b l) λr10=>.bn (zvZ a b) λr9=>.i (e != 0) (.k true) (.i (r10.2 != 0) (.k true) (.i (r9.2 != 0) (.k true) (.bn (zt8 1 l x_ r10.1 r9.1) λr8=>.k r8)))
def zlf (x:zl8) (y:zes):=zlo x.1 x.2.2.2.2.1 y.1 y.2.1 y.2.2.1
def ztn (n:Nat) (l:yE) (e:Int) (a:Relation) (b:Relation) (x_:Relation):=zy (zlf) default n (l,(),(),(),e,()) (a,b,x_,())
def zFF:LL ty zl8:=za (lSl 65) (za (zcm 436 0) (za (zcm 437 0) (za (zcm 438 0) (za zj zk))))
def zmg (l:yE) (a:Relation) (b:Relation):Wy zer zb5 (Bool):=.bn (zuP (l.length+Int.toNat 0+a.Columns.length+a.Rows.length+b.Columns.length+b.Rows.length+1000) l 0 a b) λr18=>.i (isL r18) (.k (getL r18)) (.bn (zht (getR r18).2.1 (getR r18).1) λr17=>.bn (zra (getR r18).2.1 (getR r18).1) λr16=>.bn (zAM r17.1 r17.2 r16.1 r16.2) λr15=>.i (!r15) (.k false) (.bn (ztn 1 (getR r18).1 r17.2 (getR r18).2.1 (getR r18).2.2 r17.1) λr14=>.k r14))
def zl7 (x:zer) (y:zb5):=zmg x.1 y.1 y.2.1
def zuQ (n:Nat) (l:yE) (a:Relation) (b:Relation):=zy (zl7) default n (l,(),(),()) (a,b,())
def zF8:LL ty zer:=za (lSl 65) (za (zcm 436 0) (za (zcm 437 0) zk))
def zl9 (l:yE) (a:Relation) (b:Relation):Wy zer zb5 (Bool):=.bn (zD1 8 20 [a,b]) λr25=>.i (!r25) (.k true) (.i (decide (Int.ofNat l.length>4)) (.k true) (.bn (zuQ 1 l a b) λr24=>.k r24))
def zl3 (x:zer) (y:zb5):=zl9 x.1 y.1 y.2.1
def zuW (n:Nat) (l:yE) (a:Relation) (b:Relation):=zy (zl3) default n (l,(),(),()) (a,b,())
def zFY (x:zh8) (y:zb5):Nat:=(x.1.length+Int.toNat x.2.2.2.1+y.1.Columns.length+y.1.Rows.length+y.2.1.Columns.length+y.2.1.Rows.length+1000)
def zet:=zbg2 zby 109 [(10,zMI),(11,zSK),(16,zyy),(25,zPl),(26,zKA),(36,zHE),(37,zzA),(38,zEa)] [] [(6,(kpL [2,3,4,7])),(3,(kpL [2,3,4])),(5,(kpL [2,3,4])),(14,(kpL [2,3,4,8,9])),(18,(kpL [2,8,12,14]))] [(6,1,(kpL [2,3,4])),(6,0,(kpL [6])),(3,0,(kpL [6])),(5,0,(kpL [6])),(14,0,(kpL [6])),(18,0,(kpL [6]))] [(6,spW zGo zF7 (zmf) (.inl default) zFP zFY)] [] [(18,spW zFX zEO (zlm) default zEq λx y=>(1)),(14,spW zFF zEO (zlf) default zEq λx y=>(1)),(5,spW zF8 zF7 (zl7) default zEq λx y=>(1)),(3,spW zF8 zF7 (zl3) default zEq λx y=>(1))]
theorem zFI:zC zet (lp (body f8) 0):=zn (id:=6) (hl:=rfl)
theorem zEh:zM2 zet (jn (body f8) 18):=zU8 (id:=18) (hl:=rfl)
theorem zEk:zM2 zet (jn (body f8) 14):=zU8 (id:=14) (hl:=rfl)
theorem zFo:zM2 zet (jn (body f8) 5):=zU8 (id:=5) (hl:=rfl)
theorem zFg:zM2 zet (jn (body f8) 3):=zU8 (id:=3) (hl:=rfl)
def zvE (a:Relation) (b:Relation) (l:yE):Wy0 (Bool):=.bn (zuW 1 l a b) λr28=>.k r28
def ze6 (a:Relation) (b:Relation) (l:yE):=(zvE a b l).fin default
def zHN:AL zby (Relation×Relation×yE×Unit):=zd (ze (zb7 25)) (zd (ze (zb7 25)) (zd (ze (vSl 65)) zp))
def zkW:=zh zHN λx=>((ze6 x.1 x.2.1 x.2.2.1).1,zXz (ze6 x.1 x.2.1 x.2.2.1).2)
theorem zCG:Sound Tryz.prog zby 8 zkW:=
 z8s (cx':=zet) zCq zU7 zbkk (zbiS ⟨z1P,z64.nodr,zFZ.nodr,z2Y.nodr,zXF,zPy.nodr,zLy,zQr.nodr,trivial⟩) call8 func8 (c:=body f8) (by kernel_rfl) (zba4 (l:=[lp (body f8) 0]) (by kernel_rfl) ⟨zFI,trivial⟩ (js:=[jn (body f8) 3,jn (body f8) 5,jn (body f8) 14,jn (body f8) 18]) (by kernel_rfl) ⟨zFg,zFo,zEk,zEh,trivial⟩) (sg:=⟨[.pure],[]⟩)
def trV (v:Value):TT:=.l [.i v.Kind,.i v.Int,trB v.Text]
mutual
def zec:At->TT
 | ⟨k,r,a,f,i,o,b⟩=>.l [.i k,.i r.Table,.i r.Seq,.l (zx8 a),.i f,.l (zhU i),.i o,trV b]
def zrk:Fc->TT
 | ⟨x,e⟩=>.l [zec x,.i e]
def zbD:yC->List TT
 | []=>[]
 | x::r=>zrk x::zbD r
def zAf:Term->TT
 | ⟨c,fs⟩=>.l [.l (zbD fs),.i c]
def zdH:yB->List TT
 | []=>[]
 | x::r=>zAf x::zdH r
def zx8:yA->List TT
 | []=>[]
 | x::r=>.l (zdH x)::zx8 r
def zbf:Wd->TT
 | ⟨v,a⟩=>.l [trV v,.l (zdH a)]
def zhU:yD->List TT
 | []=>[]
 | x::r=>zbf x::zhU r
end
theorem zxR:∀ l,zbD l=l.map zrk
 | []=>by rw [zbD]; rfl
 | x::r=>by rw [zbD,zxR r]; rfl
theorem zH3:∀ l,zdH l=l.map zAf
 | []=>by rw [zdH]; rfl
 | x::r=>by rw [zdH,zH3 r]; rfl
theorem zFn:∀ l,zx8 l=l.map λx=>.l (zdH x)
 | []=>by rw [zx8]; rfl
 | x::r=>by rw [zx8,zFn r]; rfl
theorem zm8:∀ l,zhU l=l.map zbf
 | []=>by rw [zhU]; rfl
 | x::r=>by rw [zhU,zm8 r]; rfl
theorem zJJ:∀ a b:List UInt8,(a.map λx=>TT.i (x.toNat:Int))=(b.map λx=>TT.i (x.toNat:Int))->a=b
 | [],[]=>λ_=>rfl
 | [],_::_=>λh=>by simp at h
 | _::_,[]=>λh=>by simp at h
 | x::a,y::b=>λh=>by
  simp only [List.map,qp,TT.i.injEq] at h;rw [zJJ a b h.2,UInt8.toNat_inj.1 (Int.ofNat.inj h.1)]
theorem z88 {a b:Value} (h:trV a=trV b):a=b:=by
 obtain ⟨k,n,s⟩:=a; obtain ⟨k',n',s'⟩:=b;simp only [trV,trB,TT.l.injEq,qp,TT.i.injEq,and_true] at h;obtain ⟨rfl,rfl,h⟩:=h;have:=zJJ _ _ h;obtain ⟨⟨l⟩⟩:=s; obtain ⟨⟨l'⟩⟩:=s';simp only at this; subst this; rfl
mutual
theorem z5F:∀ a b:At,zec a=zec b->a=b
 | ⟨k,r,a,f,i,o,v⟩,⟨k',r',a',f',i',o',v'⟩=>λh=>by
  simp only [zec,TT.l.injEq,qp,TT.i.injEq,and_true] at h;obtain ⟨rfl,h1,h2,h3,rfl,h4,rfl,h5⟩:=h;obtain ⟨t,s⟩:=r; obtain ⟨t',s'⟩:=r';simp only at h1 h2; subst h1 h2;rw [z47 a a' h3,z2M i i' h4,z88 h5]
theorem zbcX:∀ a b:Fc,zrk a=zrk b->a=b
 | ⟨x,e⟩,⟨x',e'⟩=>λh=>by
  simp only [zrk,TT.l.injEq,qp,TT.i.injEq,and_true] at h;rw [z5F x x' h.1,h.2]
theorem zCz:∀ a b:yC,zbD a=zbD b->a=b
 | [],[]=>λ_=>rfl
 | [],_::_=>λh=>by simp [zbD] at h
 | _::_,[]=>λh=>by simp [zbD] at h
 | x::a,y::b=>λh=>by
  simp only [zbD,qp] at h;rw [zbcX x y h.1,zCz a b h.2]
theorem zbgW:∀ a b:Term,zAf a=zAf b->a=b
 | ⟨c,l⟩,⟨c',l'⟩=>λh=>by
  simp only [zAf,TT.l.injEq,qp,TT.i.injEq,and_true] at h;rw [zCz l l' h.1,h.2]
theorem zIZ:∀ a b:yB,zdH a=zdH b->a=b
 | [],[]=>λ_=>rfl
 | [],_::_=>λh=>by simp [zdH] at h
 | _::_,[]=>λh=>by simp [zdH] at h
 | x::a,y::b=>λh=>by
  simp only [zdH,qp] at h;rw [zbgW x y h.1,zIZ a b h.2]
theorem z47:∀ a b:yA,zx8 a=zx8 b->a=b
 | [],[]=>λ_=>rfl
 | [],_::_=>λh=>by simp [zx8] at h
 | _::_,[]=>λh=>by simp [zx8] at h
 | x::a,y::b=>λh=>by
  simp only [zx8,qp,TT.l.injEq] at h;rw [zIZ x y h.1,z47 a b h.2]
theorem z6M:∀ a b:Wd,zbf a=zbf b->a=b
 | ⟨c,l⟩,⟨c',l'⟩=>λh=>by
  simp only [zbf,TT.l.injEq,qp,and_true] at h;rw [z88 h.1,zIZ l l' h.2]
theorem z2M:∀ a b:yD,zhU a=zhU b->a=b
 | [],[]=>λ_=>rfl
 | [],_::_=>λh=>by simp [zhU] at h
 | _::_,[]=>λh=>by simp [zhU] at h
 | x::a,y::b=>λh=>by
  simp only [zhU,qp] at h;rw [z6M x y h.1,z2M a b h.2]
end
def zdl (P:yB->Prop) (x:At):Prop:=
 (x.Ag.length<=1000000/\x.Items.length<=1000000/\x.Bd.Text.size<=1000000000000)/\(∀ a∈x.Ag,P a)/\∀ w∈x.Items,w.Value.Text.size<=1000000000000/\P w.Ann
def zg2 (P:yB->Prop) (l:yC):Prop:=l.length<=1000000/\∀ f∈l,zdl P f.At
def zq:Nat->yB->Prop
 | 0,_=>False
 | n+1,a=>a.length<=1000000/\∀ t∈a,zg2 (zq n) t.Fs
theorem zdl.imp {P Q:yB->Prop} (h:∀ a,P a->Q a) {x:At} (hx:zdl P x):zdl Q x:=⟨hx.1,λa ha=>h a (hx.2.1 a ha),λw hw=>⟨(hx.2.2 w hw).1,h _ (hx.2.2 w hw).2⟩⟩
theorem zq.succ:∀ (n:Nat) (a:yB),zq n a->zq (n+1) a
 | 0,_,h=>h.elim
 | n+1,a,h=>⟨h.1,λt ht=>⟨(h.2 t ht).1,λf hf=>((h.2 t ht).2 f hf).imp (zq.succ n)⟩⟩
theorem zq.mono {n m:Nat} {a:yB} (h:zq n a) (hm:n<=m):zq m a:=by
 obtain ⟨k,rfl⟩:=Nat.exists_eq_add_of_le hm;clear hm;induction k with
 | zero=>exact h
 | succ k ih=>exact zq.succ _ _ ih
theorem zlT:∀ {l:yC},zuc l->∀ x∈l,zw1 x
 | [],_,x,hx=>by cases hx
 | y::r,h,x,hx=>by
  unfold zuc at h;rcases q8.1 hx with rfl | hx
  ·exact h.1
  ·exact zlT h.2 x hx
theorem zqG:∀ {l:yB},zgz l->∀ x∈l,zB1 x
 | [],_,x,hx=>by cases hx
 | y::r,h,x,hx=>by
  unfold zgz at h;rcases q8.1 hx with rfl | hx
  ·exact h.1
  ·exact zqG h.2 x hx
theorem zhD:∀ {l:yA},zxK l->∀ x∈l,zgz x/\x.length<=z6
 | [],_,x,hx=>by cases hx
 | y::r,h,x,hx=>by
  unfold zxK at h;rcases q8.1 hx with rfl | hx
  ·exact h.1
  ·exact zhD h.2 x hx
theorem zga:∀ {l:yD},zta l->∀ x∈l,zRf x.Value/\zgz x.Ann/\x.Ann.length<=z6
 | [],_,x,hx=>by cases hx
 | y::r,h,x,hx=>by
  unfold zta at h;rcases q8.1 hx with rfl | hx
  ·have:=h.1; unfold zId at this; exact ⟨this.1,this.2.1,this.2.2⟩
  ·exact zga h.2 x hx
theorem ztI {t:Term} (h:zB1 t):wf2 t.Cf/\zuc t.Fs/\t.Fs.length<=z6:=by
 unfold zB1 at h; exact ⟨h.1,h.2.1,h.2.2⟩
theorem znH {t:Fc} (h:zw1 t):zgn t.At/\wf3 t.Exp:=by
 unfold zw1 at h; exact h
theorem zng {x:At} (h:zgn x):(zxK x.Ag/\x.Ag.length<=z6)/\(zta x.Items/\x.Items.length<=z6)/\zRf x.Bd/\wf3 x.Kind/\z4n x.Row/\wf3 x.Func/\wf3 x.Op:=by
 obtain ⟨k,r,a,f,i,o,b⟩:=x; unfold zgn at h; exact ⟨h.2.2.1,h.2.2.2.2.1,h.2.2.2.2.2.2,h.1,h.2.1,h.2.2.2.1,h.2.2.2.2.2.1⟩
theorem ze5 {z:Int} (h0: -4611686018427387904<=z) (h:z<4611686018427387904):IntKind.i64.wrap z=z:=z0V (by omega) (by omega)
mutual
def zGY:At->Nat
 | ⟨_,_,a,_,i,_,b⟩=>i.length+a.length+b.Text.size+zqV a+zlh i
def zhH:yC->Nat
 | []=>0
 | ⟨x,_⟩::r=>zGY x+zhH r
def zeo:yB->Nat
 | []=>0
 | ⟨_,fs⟩::r=>1+fs.length+zhH fs+zeo r
def zqV:yA->Nat
 | []=>0
 | a::r=>zeo a+zqV r
def zlh:yD->Nat
 | []=>0
 | ⟨v,a⟩::r=>v.Text.size+zeo a+zlh r
end
theorem z6R (x:At):zGY x=x.Items.length+x.Ag.length+x.Bd.Text.size+zqV x.Ag+zlh x.Items:=by cases x; rw [zGY]
theorem zPM (f:Fc) (r:yC):zhH (f::r)=zGY f.At+zhH r:=by cases f; rw [zhH]
theorem zQu (t:Term) (r:yB):zeo (t::r)=1+t.Fs.length+zhH t.Fs+zeo r:=by cases t; rw [zeo]
theorem zXU (a:yB) (r:yA):zqV (a::r)=zeo a+zqV r:=by rw [zqV]
theorem zJY (w:Wd) (r:yD):zlh (w::r)=w.Value.Text.size+zeo w.Ann+zlh r:=by cases w; rw [zlh]
theorem zbeF:zqV []=0:=by rw [zqV]
theorem zbc6:zlh []=0:=by rw [zlh]
theorem z7Z:zhH []=0:=by rw [zhH]
theorem zbgk:zeo []=0:=by rw [zeo]
section
variable (g:yB->Int->Int->Bool×Int) (a:yB) (limit d:Nat) (hl:limit<=1000) (hd:d<=100) (B:Nat) (hB:B<=1152921504606846976) (P:yB->Prop)
include hl hd hB
theorem w14 (x:At) (i k:Int) (hlen:x.Ag.length<=z6) (hg:∀ y∈x.Ag,∀ l:Nat,l<=1000->∃ w:Nat,g y l d=(true,(w:Int))/\w<=B/\(w<=l->P y/\zeo y<=w)):
  ∀ (fuel j n:Nat),x.Ag.length<j+fuel->j<=x.Ag.length->n<=2305843009213693952->∃ n':Nat,zzE g fuel a limit (d+1:Nat) n i k j x=(true,(a,(limit:Int),((d+1:Nat):Int),(n':Int),i,k,x))/\n<=n'/\n'<=max n (limit+B)/\(n'<=limit->(∀ y∈x.Ag.drop j,P y)/\n+zqV (x.Ag.drop j)<=n')
 | 0,j,n,h1,h2,h3=>by omega
 | fuel+1,j,n,h1,h2,h3=>by
  show ∃ n':Nat,(zzW g a limit (d+1:Nat) n i k j x).ev (λx y=>zzE g fuel x.1 x.2.1 x.2.2.1 x.2.2.2.1 x.2.2.2.2.1 x.2.2.2.2.2.1 x.2.2.2.2.2.2.2.1 y.1) (λr=>(true,r)) (false,default)=_/\_
  unfold zzW Wy.ix;have hml:z6=140737488351232:=rfl;by_cases hj:j<x.Ag.length
  ·by_cases hn:n<=limit
   ·have e1:IntKind.i64.wrap ((limit:Int) - (n:Int))=((limit - n:Nat):Int):=by rw [ze5 (by omega) (by omega)]; omega
    obtain ⟨w,hw,hwB,hwP⟩:=hg _ (zm hj) (limit - n) (by omega)
    have ed:IntKind.i64.wrap (((d+1:Nat):Int) - 1)=(d:Int):=by rw [ze5 (by omega) (by omega)]; omega
    simp only [Wy.ev_i,Wy.ev_k,Wy.ev_h,Wy.ev_bn,Wy.ev_d,tT,hj,zud,hn,e1,ed,hw];have e3:IntKind.i64.wrap ((n:Int)+(w:Int))=((n+w:Nat):Int):=by rw [ze5 (by omega) (by omega)]; omega
    rw [e3,zu (by omega)]
    obtain ⟨n',h4,h5,h6,h7⟩:=w14 x i k hlen hg fuel (j+1) (n+w) (by omega) (by omega) (by omega)
    refine ⟨n',h4,by omega,by omega,λhn'=> ?_⟩
    obtain ⟨h8,h9⟩:=h7 hn';obtain ⟨p1,p2⟩:=hwP (by omega)
    rw [zbd hj,zXU];refine ⟨λy hy=> ?_,by omega⟩
    rcases q8.1 hy with rfl | hy
    ·exact p1
    ·exact h8 y hy
   ·simp only [Wy.ev_i,Wy.ev_k,Wy.ev_h,Wy.ev_bn,Wy.ev_d,tT,hj,zud,hn];exact ⟨n,rfl,qn _,by omega,λh=>absurd h hn⟩
  ·simp only [Wy.ev_i,Wy.ev_k,Wy.ev_h,Wy.ev_bn,Wy.ev_d,tT,hj];exact ⟨n,rfl,qn _,by omega,λ_=>by rw [zb2 hj,zbeF]; exact ⟨λy hy=>(by cases hy),qn _⟩⟩
theorem w18 (x:At) (i k:Int) (hlen:x.Items.length<=z6) (hg:∀ y∈x.Items,y.Value.Text.size<=z6/\∀ l:Nat,l<=1000->∃ w:Nat,g y.Ann l d=(true,(w:Int))/\w<=B/\(w<=l->P y.Ann/\zeo y.Ann<=w)):
  ∀ (fuel j n:Nat),x.Items.length<j+fuel->j<=x.Items.length->n<=2305843009213693952->∃ n':Nat,zzq g fuel a limit (d+1:Nat) n i k j x=(true,(a,(limit:Int),((d+1:Nat):Int),(n':Int),i,k))/\n<=n'/\n'<=max n (limit+z6+B)/\(n'<=limit->(∀ y∈x.Items.drop j,y.Value.Text.size<=1000/\P y.Ann)/\n+zlh (x.Items.drop j)<=n')
 | 0,j,n,h1,h2,h3=>by omega
 | fuel+1,j,n,h1,h2,h3=>by
  show ∃ n':Nat,(zzZ g a limit (d+1:Nat) n i k j x).ev (λx y=>zzq g fuel x.1 x.2.1 x.2.2.1 x.2.2.2.1 x.2.2.2.2.1 x.2.2.2.2.2.1 x.2.2.2.2.2.2.2.1 y.1) (λr=>(true,r)) (false,default)=_/\_
  unfold zzZ Wy.ix;have hml:z6=140737488351232:=rfl;by_cases hj:j<x.Items.length
  ·by_cases hn:n<=limit
   ·have e1:IntKind.i64.wrap ((limit:Int) - (n:Int))=((limit - n:Nat):Int):=by rw [ze5 (by omega) (by omega)]; omega
    obtain ⟨ht,hgy⟩:=hg _ (zm hj);obtain ⟨w,hw,hwB,hwP⟩:=hgy (limit - n) (by omega)
    have ed:IntKind.i64.wrap (((d+1:Nat):Int) - 1)=(d:Int):=by rw [ze5 (by omega) (by omega)]; omega
    simp only [Wy.ev_i,Wy.ev_k,Wy.ev_h,Wy.ev_bn,Wy.ev_d,tT,hj,zud,hn,e1,ed,hw];generalize hsz:(x.Items.getD j default).Value.Text.size=sz at *;have e3:IntKind.i64.wrap (IntKind.i64.wrap ((n:Int)+(sz:Int))+(w:Int))=((n+sz+w:Nat):Int):=by rw [ze5 (z:=(n:Int)+(sz:Int)) (by omega) (by omega),ze5 (by omega) (by omega)]; omega
    rw [e3,zu (by omega)]
    obtain ⟨n',h4,h5,h6,h7⟩:=w18 x i k hlen hg fuel (j+1) (n+sz+w) (by omega) (by omega) (by omega)
    refine ⟨n',h4,by omega,by omega,λhn'=> ?_⟩
    obtain ⟨h8,h9⟩:=h7 hn';obtain ⟨p1,p2⟩:=hwP (by omega)
    rw [zbd hj,zJY];refine ⟨λy hy=> ?_,by omega⟩
    rcases q8.1 hy with rfl | hy
    ·exact ⟨by omega,p1⟩
    ·exact h8 y hy
   ·simp only [Wy.ev_i,Wy.ev_k,Wy.ev_h,Wy.ev_bn,Wy.ev_d,tT,hj,zud,hn];exact ⟨n,rfl,qn _,by omega,λh=>absurd h hn⟩
  ·simp only [Wy.ev_i,Wy.ev_k,Wy.ev_h,Wy.ev_bn,Wy.ev_d,tT,hj];exact ⟨n,rfl,qn _,by omega,λ_=>by rw [zb2 hj,zbc6]; exact ⟨λy hy=>(by cases hy),qn _⟩⟩
theorem w9 (i:Nat) (hi:i<a.length) (hla:(a.getD i default).Fs.length<=z6) (hg:∀ f∈(a.getD i default).Fs,f.At.Ag.length<=z6/\f.At.Items.length<=z6/\f.At.Bd.Text.size<=z6/\(∀ y∈f.At.Ag,∀ l:Nat,l<=1000->∃ w:Nat,g y l d=(true,(w:Int))/\w<=B/\(w<=l->P y/\zeo y<=w))/\
   ∀ y∈f.At.Items,y.Value.Text.size<=z6/\∀ l:Nat,l<=1000->∃ w:Nat,g y.Ann l d=(true,(w:Int))/\w<=B/\(w<=l->P y.Ann/\zeo y.Ann<=w)):
  ∀ (fuel k n:Nat),(a.getD i default).Fs.length<k+fuel->k<=(a.getD i default).Fs.length->n<=2305843009213693952->∃ n':Nat,zBC g fuel a limit (d+1:Nat) n i k=(true,(a,(limit:Int),((d+1:Nat):Int),(n':Int),(i:Int)))/\n<=n'/\n'<=max n (limit+4*z6+B)/\
   (n'<=limit->(∀ f∈(a.getD i default).Fs.drop k,(f.At.Ag.length<=1000/\f.At.Items.length<=1000/\f.At.Bd.Text.size<=1000)/\(∀ y∈f.At.Ag,P y)/\∀ y∈f.At.Items,y.Value.Text.size<=1000/\P y.Ann)/\n+zhH ((a.getD i default).Fs.drop k)<=n')
 | 0,k,n,h1,h2,h3=>by omega
 | fuel+1,k,n,h1,h2,h3=>by
  show ∃ n':Nat,(zBo g a limit (d+1:Nat) n i k).ev (λx y=>zBC g fuel x.1 x.2.1 x.2.2.1 x.2.2.2.1 x.2.2.2.2.1 x.2.2.2.2.2.1) (λr=>(true,r)) (false,default)=_/\_
  unfold zBo Wy.ix At.et;have hml:z6=140737488351232:=rfl;by_cases hk:k<(a.getD i default).Fs.length
  ·by_cases hn:n<=limit
   ·simp only [Wy.ev_i,Wy.ev_k,Wy.ev_h,Wy.ev_bn,Wy.ev_d,tT,hi,hk,zud,hn,At.eta];obtain ⟨ha1,ha2,ha3,hgA,hgI⟩:=hg _ (zm hk);generalize hf:((a.getD i default).Fs.getD k default)=f at *
    have e0:IntKind.i64.wrap (IntKind.i64.wrap (IntKind.i64.wrap ((n:Int)+(f.At.Items.length:Int))+(f.At.Ag.length:Int))+(f.At.Bd.Text.size:Int))=((n+f.At.Items.length+f.At.Ag.length+f.At.Bd.Text.size:Nat):Int):=by
     rw [ze5 (z:=(n:Int)+(f.At.Items.length:Int)) (by omega) (by omega),ze5 (z:=(n:Int)+(f.At.Items.length:Int)+(f.At.Ag.length:Int)) (by omega) (by omega),ze5 (by omega) (by omega)]; omega
    rw [e0];obtain ⟨n1,q1,q2,q3,q4⟩:=w14 g a limit d hl hd B hB P f.At i k ha1 hgA (a.length+limit+(d+1)+((n+f.At.Items.length+f.At.Ag.length+f.At.Bd.Text.size:Nat):Int).toNat +i+k+Int.toNat 0+f.At.Ag.length+f.At.Items.length+1) 0 (n+f.At.Items.length+f.At.Ag.length+f.At.Bd.Text.size) (by omega) (by omega) (by omega)
    rw [show ((0:Nat):Int)=(0:Int) from rfl] at q1
    rw [q1];simp only [q7,At.eta,qt];obtain ⟨n2,r1,r2,r3,r4⟩:=w18 g a limit d hl hd B hB P f.At i k ha2 hgI (a.length+limit+(d+1)+n1+i+k+Int.toNat 0+f.At.Ag.length+f.At.Items.length+1) 0 n1 (by omega) (by omega) (by omega)
    rw [show ((0:Nat):Int)=(0:Int) from rfl] at r1
    rw [r1];simp only [q7];rw [zu (by omega)]
    obtain ⟨n',h4,h5,h6,h7⟩:=w9 i hi hla hg fuel (k+1) n2 (by omega) (by omega) (by omega)
    refine ⟨n',h4,by omega,by omega,λhn'=> ?_⟩
    obtain ⟨h8,h9⟩:=h7 hn';obtain ⟨q5,q6⟩:=q4 (by omega)
    obtain ⟨r5,r6⟩:=r4 (by omega)
    rw [qq] at q5 q6 r5 r6;rw [zbd hk,zPM,hf,z6R];refine ⟨λy hy=> ?_,by omega⟩
    rcases q8.1 hy with rfl | hy
    ·exact ⟨⟨by omega,by omega,by omega⟩,q5,r5⟩
    ·exact h8 y hy
   ·simp only [Wy.ev_i,Wy.ev_k,Wy.ev_h,Wy.ev_bn,Wy.ev_d,tT,hi,hk,zud,hn];exact ⟨n,rfl,qn _,by omega,λh=>absurd h hn⟩
  ·simp only [Wy.ev_i,Wy.ev_k,Wy.ev_h,Wy.ev_bn,Wy.ev_d,tT,hi,hk];exact ⟨n,rfl,qn _,by omega,λ_=>by rw [zb2 hk,z7Z]; exact ⟨λy hy=>(by cases hy),qn _⟩⟩
theorem w5 (hla:∀ t∈a,t.Fs.length<=z6) (hg:∀ t∈a,∀ f∈t.Fs,f.At.Ag.length<=z6/\f.At.Items.length<=z6/\f.At.Bd.Text.size<=z6/\(∀ y∈f.At.Ag,∀ l:Nat,l<=1000->∃ w:Nat,g y l d=(true,(w:Int))/\w<=B/\(w<=l->P y/\zeo y<=w))/\
   ∀ y∈f.At.Items,y.Value.Text.size<=z6/\∀ l:Nat,l<=1000->∃ w:Nat,g y.Ann l d=(true,(w:Int))/\w<=B/\(w<=l->P y.Ann/\zeo y.Ann<=w)) (hlen:a.length<=z6):
  ∀ (fuel i n:Nat),a.length<i+fuel->i<=a.length->n<=2305843009213693952->∃ n':Nat,zBp g fuel a limit (d+1:Nat) n i=(true,(n':Int))/\n<=n'/\n'<=max n (limit+6*z6+B)/\
   (n'<=limit->(n+(a.length - i)<=n'/\n+zeo (a.drop i)<=n')/\∀ t∈a.drop i,t.Fs.length<=1000/\∀ f∈t.Fs,(f.At.Ag.length<=1000/\f.At.Items.length<=1000/\f.At.Bd.Text.size<=1000)/\(∀ y∈f.At.Ag,P y)/\∀ y∈f.At.Items,y.Value.Text.size<=1000/\P y.Ann)
 | 0,i,n,h1,h2,h3=>by omega
 | fuel+1,i,n,h1,h2,h3=>by
  show ∃ n':Nat,(zBq g a limit (d+1:Nat) n i).ev (λx y=>zBp g fuel x.1 x.2.1 x.2.2.1 x.2.2.2.1 x.2.2.2.2.1) (λr=>(true,r)) (false,default)=_/\_
  unfold zBq Wy.ix;have hml:z6=140737488351232:=rfl;by_cases hi:i<a.length
  ·by_cases hn:n<=limit
   ·simp only [Wy.ev_i,Wy.ev_k,Wy.ev_h,Wy.ev_bn,Wy.ev_d,tT,hi,zud,hn];have hla':=hla _ (zm hi)
    have e0:IntKind.i64.wrap (IntKind.i64.wrap ((n:Int)+1)+((a.getD i default).Fs.length:Int))=((n+1+(a.getD i default).Fs.length:Nat):Int):=by
     rw [zu (by omega),ze5 (by omega) (by omega)]; omega
    rw [e0];obtain ⟨n1,q1,q2,q3,q4⟩:=w9 g a limit d hl hd B hB P i hi hla' (hg _ (zm hi)) (a.length+limit+(d+1)+((n+1+(a.getD i default).Fs.length:Nat):Int).toNat +i+Int.toNat 0+1) 0 (n+1+(a.getD i default).Fs.length) (by omega) (by omega) (by omega)
    rw [show ((0:Nat):Int)=(0:Int) from rfl] at q1
    rw [q1];simp only [q7];rw [zu (by omega)]
    obtain ⟨n',h4,h5,h6,h7⟩:=w5 hla hg hlen fuel (i+1) n1 (by omega) (by omega) (by omega)
    refine ⟨n',h4,by omega,by omega,λhn'=> ?_⟩
    obtain ⟨⟨h8,h10⟩,h9⟩:=h7 hn';obtain ⟨q5,q6⟩:=q4 (by omega)
    rw [qq] at q5 q6;rw [zbd hi,zQu];refine ⟨⟨by omega,by omega⟩,λy hy=> ?_⟩
    rcases q8.1 hy with rfl | hy
    ·exact ⟨by omega,q5⟩
    ·exact h9 y hy
   ·simp only [Wy.ev_i,Wy.ev_k,Wy.ev_h,Wy.ev_bn,Wy.ev_d,tT,hi,zud,hn];exact ⟨n,rfl,qn _,by omega,λh=>absurd h hn⟩
  ·simp only [Wy.ev_i,Wy.ev_k,Wy.ev_h,Wy.ev_bn,Wy.ev_d,tT,hi];exact ⟨n,rfl,qn _,by omega,λ_=>by rw [zb2 hi,zbgk]; exact ⟨⟨by omega,qn _⟩,λy hy=>(by cases hy)⟩⟩
end
theorem z9u:∀ (d N:Nat),d<N->d<=12->∀ (l:Nat),l<=1000->∀ a,zgz a->a.length<=z6->∃ w:Nat,zq3 N a l d=(true,(w:Int))/\w<=(d+1)*4503599627370496/\(w<=l->zq d a/\zeo a<=w)
 | _,0,h,_,_,_,_,_,_=>by omega
 | 0,N+1,_,_,l,hl,a,hw,hlen=>by
  rw [zKU];unfold zvC zCV;refine ⟨l+1, ?_,by omega,λh=>by omega⟩
  simp only [Wy.fin_i,Wy.fin_k];rw [zu (by omega)]; rfl
 | d+1,N+1,hN,hd,l,hl,a,hw,hlen=>by
  rw [zKU];unfold zvC zCV;have hml:z6=140737488351232:=rfl;have ih:=λy (h1:zgz y) (h2:y.length<=z6) l hl=>z9u d N (by omega) (by omega) l hl y h1 h2
  have e0:(((d+1:Nat):Int)==(0:Int))=false:=by
   rw [q22]; omega
  obtain ⟨n',h1,h2,h3,h4⟩:=w5 (zq3 N) a l d hl (by omega) ((d+1)*4503599627370496) (by omega) (zq d) (λt ht=>(ztI (zqG hw t ht)).2.2) (λt ht f hf=>by
   have hx:=zng (znH (zlT (ztI (zqG hw t ht)).2.1 f hf)).1;refine ⟨hx.1.2,hx.2.1.2,hx.2.2.1.2.2,λy hy l hl=> ?_,λy hy=> ?_⟩
   ·have:=zhD hx.1.1 y hy;exact ih y this.1 this.2 l hl
   ·have:=zga hx.2.1.1 y hy;exact ⟨this.1.2.2,λl hl=>ih y.Ann this.2.1 this.2.2 l hl⟩) hlen (a.length+l+(d+1)+Int.toNat 0+Int.toNat 0+1) 0 0 (by omega) (by omega) (by omega)
  rw [show ((0:Nat):Int)=(0:Int) from rfl] at h1
  refine ⟨n', ?_,by omega,λhn=> ?_⟩
  ·simp only [Wy.fin_i,Wy.fin_k,Wy.fin_bn,e0,q9,qt,h1,q7]
  ·obtain ⟨⟨h5,h12⟩,h6⟩:=h4 hn;rw [qq] at h12;refine ⟨⟨by omega,λt ht=> ?_⟩,by omega⟩
   obtain ⟨h7,h8⟩:=h6 t (by simpa using ht)
   refine ⟨by omega,λf hf=> ?_⟩
   obtain ⟨h9,h10,h11⟩:=h8 f hf;exact ⟨⟨by omega,by omega,by omega⟩,h10,λw hw=>⟨by have:=(h11 w hw).1; omega,(h11 w hw).2⟩⟩
theorem zbcE (limit:Nat) (hl:limit<=1000) (l:yA) (hll:l.length<=1000) (hw:∀ a∈l,zgz a/\a.length<=z6):∀ (n i:Nat),l.length<i+n->i<=l.length->∃ r,zOa n limit l i=(true,r)/\((r=.inl false)\/(r=.inr ()/\∀ a∈l.drop i,zq 12 a/\zeo a<=limit))
 | 0,i,h1,h2=>by omega
 | n+1,i,h1,h2=>by
  show ∃ r,(zNh limit l i).ev (λx y=>zOa n x.1 x.2.1 x.2.2.1) (λr=>(true,r)) (false,.inl default)=(true,r)/\_
  unfold zNh Wy.ix;by_cases hi:i<l.length
  ·obtain ⟨w,q1,q2,q3⟩:=z9u 12 1000 (by omega) (by omega) limit hl _ (hw _ (zm hi)).1 (hw _ (zm hi)).2
   have q1':zND (l.getD i default) (limit:Int) 12=(true,(w:Int)):=q1;simp only [Wy.ev_i,Wy.ev_k,Wy.ev_h,Wy.ev_bn,Wy.ev_d,tT,hi,q1',zjR];by_cases hg:limit<w
   ·simp only [hg,decide_true,q7];exact ⟨_,rfl,.inl rfl⟩
   ·simp only [hg,decide_false,q9];rw [zu (by omega)]
    obtain ⟨r,h3,h4⟩:=zbcE limit hl l hll hw n (i+1) (by omega) (by omega)
    refine ⟨r,h3, ?_⟩;rcases h4 with h4 | ⟨h4,h5⟩
    ·exact .inl h4
    ·refine .inr ⟨h4,λa ha=> ?_⟩
     rw [zbd hi] at ha;rcases q8.1 ha with rfl | ha
     ·exact ⟨(q3 (by omega)).1,by have:=(q3 (by omega)).2; omega⟩
     ·exact h5 a ha
  ·simp only [Wy.ev_i,Wy.ev_k,Wy.ev_h,Wy.ev_bn,Wy.ev_d,tT,hi];exact ⟨_,rfl,.inr ⟨rfl,λa ha=>by rw [zb2 hi] at ha; cases ha⟩⟩
theorem zbm6 (limit:Nat) (hl:limit<=1000) (l:yA) (hll:l.length<=1000) (hw:∀ a∈l,zgz a/\a.length<=z6):∃ b,zwo limit l=(true,b)/\(b=true->∀ a∈l,zq 12 a/\zeo a<=limit):=by
 unfold zwo z2X;obtain ⟨r,h1,h2⟩:=zbcE limit hl l hll hw (limit+l.length+Int.toNat 0+1) 0 (by omega) (by omega)
 rw [show ((0:Nat):Int)=(0:Int) from rfl] at h1
 rw [Wy.fin_bn];simp only [qt,h1,q7];rcases h2 with rfl | ⟨rfl,h2⟩
 ·exact ⟨false,rfl,λh=>by cases h⟩
 ·exact ⟨true,rfl,λ_ a ha=>h2 a (by simpa using ha)⟩
end Go.Proofs.YtoknknbmfmddbaaGreatDoor
end
