/- Texts of this claim, joined (the program, its functions in plain words, and what they compute). -/
import Derived.Test.YtljlfiomikifjaaGreatDoorGC6
set_option autoImplicit false
set_option linter.unusedVariables false
set_option linter.unusedSectionVars false
set_option linter.unusedSimpArgs false
set_option maxRecDepth 1000000
set_option maxHeartbeats 0
noncomputable section
namespace Go.Proofs.YtljlfiomikifjaaGreatDoor
open Go Go.Ab
open Go.Proofs.Tryz
abbrev zEd:=Int×yE×Int×Unit×Int×Unit
abbrev zYr:=Int⊕(Int×yE×Int×Value)
def zzq (fn:Int) (items:yE) (op:Int) (i:Int) (bound:Value):Wy zEd (Value×Unit) zYr:=.i (decide (i<Int.ofNat items.length)) (.i (decide (0<=i)&&decide (i<Int.ofNat items.length)) (.bn (zeR (items.getD i.toNat default).Ann) λr0=>.i (!r0) (.k (.inl 1)) (.h (fn,items,op,(),(IntKind.i64.wrap (i+1)),()) (bound,()))) .d) (.k (.inr (fn,items,op,bound)))
def zLH (x:zEd) (y:Value×Unit):=zzq x.1 x.2.1 x.2.2.1 x.2.2.2.2.1 y.1
def zYs (n:Nat) (fn:Int) (items:yE) (op:Int) (i:Int) (bound:Value):=zy (zLH) (.inl default) n (fn,items,op,(),i,()) (bound,())
def zbbk (r:zYr):LTree ty:=.ite (isL r) (.done .ret [.lit (.slice none 0 0),.lit (.int .i64 (getL r))] []) (.done (.exit 0) [.lit (.int .i64 (getR r).1),.sl 100 (getR r).2.1,.lit (.int .i64 (getR r).2.2.1),.ptr 220 0] [.box (base.enc 65 (getR r).2.2.2) false])
def zbco:LL ty zEd:=za zj (za (lSl 100) (za zj (za (zdR 220 0) (za zj zk))))
def zbac (x:zEd) (y:Value×Unit):Nat:=(Int.toNat x.1+x.2.1.length+Int.toNat x.2.2.1+Int.toNat x.2.2.2.2.1+1)
def zXU:=zbY base 55 [(16,zfc),(77,zwO),(91,zjq),(101,znb),(102,zol),(111,zEP),(240,zPH),(241,zJU)] [] [(4,(kpL [0,1,2,7,10]))] [(4,1,(kpL [0,1,2,7])),(4,0,(kpL [8,9]))] [(4,spW zbco zbag (zLH) (.inl default) zbbk zbac)] []
theorem zba3:zA zXU (lp (body f216) 0):=zp (id:=4) (hl:=rfl)
def z1O (fn:Int) (items:yE) (op:Int) (bound:Value):Wy0 (yC×Int):=.bn (zzT fn items op bound) λr7=>.i (!r7) (.k ([],1)) (.bn (zYs (fn.toNat +items.length+op.toNat +Int.toNat 0+1) fn items op 0 bound) λr6=>.i (isL r6) (.k ([],getL r6)) (.bn (zDP (getR r6).2.1) λr5=>.i (Int.ofNat r5.length==0) (.i ((getR r6).1==0) (.bn (zcW 0 (getR r6).2.2.2.Int) λr3=>.bn (zzp (getR r6).2.2.1 r3) λr2=>.i (r2) (.k (zxR.2,0)) (.k ([],0))) (.k ([],0))) (.bn (znD (znv (At.mk 4 (RowID.mk 0 0) [] (getR r6).1 r5 (getR r6).2.2.1 (getR r6).2.2.2)).2) λr4=>.k (r4.1,r4.2))))
def zyD (fn:Int) (items:yE) (op:Int) (bound:Value):=(z1O fn items op bound).fin default
def zR2:=zh zWe λx=>((zyD x.1 x.2.1 x.2.2.1 x.2.2.2.1).1,zbcO (zyD x.1 x.2.1 x.2.2.1 x.2.2.2.1).2)
theorem z5P:SdP 216 zR2:=
 sT (cx':=zXU) (zi ⟨zfD,zAV,zkB,zox,zrW,zMW,z4u,zZp,trivial⟩) call216 func216 (lOK (aC zba3 aN)) (sg:=⟨[.pure,.pure],[]⟩)
abbrev zJh:=yG×Unit×Int×Unit
abbrev zUG:=(yC×Bool)⊕Unit
def zJv (l:yG) (i:Int) (id:RowID):Wy zJh (RowID×Unit) zUG:=.i (decide (i<Int.ofNat l.length)) (.i (decide (0<=i)&&decide (i<Int.ofNat l.length)) (.i ((l.getD i.toNat default).Row.Table==id.Table&&((l.getD i.toNat default).Row.Seq==id.Seq&&true)) (.i (decide (0<=i)&&decide (i<Int.ofNat l.length)) (.k (.inl ((l.getD i.toNat default).To,true))) .d) (.h (l,(),(IntKind.i64.wrap (i+1)),()) (id,()))) .d) (.k (.inr ()))
def zUa (x:zJh) (y:RowID×Unit):=zJv x.1 x.2.2.1 y.1
def zIL (n:Nat) (l:yG) (i:Int) (id:RowID):=zy (zUa) (.inl default) n (l,(),i,()) (id,())
def z9J (r:zUG):LTree ty:=.ite (isL r) (.done .ret [.sl 28 ((getL r).1),.lit (.bool ((getL r).2))] []) (.done (.exit 0) [] [])
def zbbg:LL ty zJh:=za (lSl 51) (za (zdR 100 0) (za zj zk))
def zVc:=zbY base 25 [] [] [(2,(kpL [0,3,6]))] [(2,1,[]),(2,0,(kpL [4,5]))] [(2,spW zbbg zB2 (zUa) (.inl default) z9J λx y=>(x.1.length+Int.toNat x.2.2.1+1))] []
theorem z8N:zA zVc (lp (body f213) 0):=zp (id:=2) (hl:=rfl)
def zX7 (l:yG) (id:RowID):Wy0 (yC×Bool):=.bn (zIL (l.length+Int.toNat 0+1) l 0 id) λr0=>.i (isL r0) (.k ((getL r0).1,(getL r0).2)) (.k ([],false))
def zD6 (l:yG) (id:RowID):=(zX7 l id).fin default
def z9s (r:yC×Bool):ARes ty:=⟨[.pure (.sl 28 r.1),.pure (.lit (.bool r.2))],[]⟩
def zbc6:AL base (yG×RowID×Unit):=zc (ze (vSl 51)) (zc (ze (zcl 49)) zo)
def zPb:=zh zbc6 λx=>((zD6 x.1 x.2.1).1,z9s (zD6 x.1 x.2.1).2)
theorem z3V:SdP 213 zPb:=
 sT (cx':=zVc) (zi trivial) call213 func213 (lOK (aC z8N aN)) (sg:=⟨[.pure,.pure],[]⟩)
abbrev zEm:=yG×Unit×Unit×Int×Unit
abbrev zEr:=At×yA×Unit
abbrev zXY:=Int⊕(yG×At×yA)
abbrev zEf:=yG×Unit×Unit×Unit×Int×Unit
abbrev zEt:=At×yA×yE×Unit
abbrev zYq:=Int⊕(At×yA×yE)
def zGC (zbj:yC->yG->Bool×(yC×Int)) (l:yG) (i:Int) (x_:At) (args:yA):Wy zEm zEr zXY:=.i (decide (i<Int.ofNat x_.Ag.length)) (.i (decide (0<=i)&&decide (i<Int.ofNat x_.Ag.length)) (.bn (zbj (x_.Ag.getD i.toNat default) l) λr0=>.i (r0.2 != 0) (.k (.inl (r0.2))) (.i (decide ((args.length+[r0.1].length)*24<=zG)) (.h (l,(),(),(IntKind.i64.wrap (i+1)),()) (x_,(args++[r0.1]),())) .d)) .d) (.k (.inr (l,x_,args)))
def zRG (zbj:yC->yG->Bool×(yC×Int)) (x:zEm) (y:zEr):=zGC zbj x.1 x.2.2.2.1 y.1 y.2.1
def zGp (zbj:yC->yG->Bool×(yC×Int)) (n:Nat) (l:yG) (i:Int) (x_:At) (args:yA):=zy (zRG zbj) (.inl default) n (l,(),(),i,()) (x_,args,())
def z7e (r:zXY):LTree ty:=.ite (isL r) (.done .ret [.lit (.slice none 0 0),.lit (.int .i64 (getL r))] []) (.done (.exit 0) [.sl 51 (getR r).1,.ptr 512 0,.own 513] [.box (base.enc 67 (getR r).2.1) false,.arr 23 (getR r).2.2 false])
def z8b:LL ty zEm:=za (lSl 51) (za (zdR 512 0) (za (zdh 513) (za zj zk)))
def z9v:BL ty zEr:=zff (zeK (λx=>(⟨x.1,⟨x.2.1,x.2.2.1⟩,x.2.2.2.1,x.2.2.2.2.1,x.2.2.2.2.2.1,x.2.2.2.2.2.2.1,⟨x.2.2.2.2.2.2.2.1,x.2.2.2.2.2.2.2.2.1,x.2.2.2.2.2.2.2.2.2.1⟩⟩:At)) (λx=>(x.Kind,x.Row.Table,x.Row.Seq,x.Ag,x.Func,x.Items,x.Op,x.Bd.Kind,x.Bd.Int,x.Bd.Text,())) (λ_=>rfl) (za (zI .i64) (za (zI .i64) (za (zI .i64) (za (lSl 23) (za (zI .i64) (za (lSl 100) (za (zI .i64) (za (zI .i64) (za (zI .i64) (za znV zk))))))))))) false (zdj 23 false (z6))
def zEU (zbj:yC->yG->Bool×(yC×Int)) (l:yG) (i:Int) (x_:At) (args:yA) (items:yE):Wy zEf zEt zYq:=.i (decide (i<Int.ofNat x_.Items.length)) (.i (decide (0<=i)&&decide (i<Int.ofNat x_.Items.length)) (.bn (zbj (x_.Items.getD i.toNat default).Ann l) λr2=>.i (r2.2 != 0) (.k (.inl (r2.2))) (.i (decide (0<=i)&&decide (i<Int.ofNat x_.Items.length)) (.i (decide ((items.length+[WO.mk (x_.Items.getD i.toNat default).Value r2.1].length)*56<=zG)) (.h (l,(),(),(),(IntKind.i64.wrap (i+1)),()) (x_,args,(items++[WO.mk (x_.Items.getD i.toNat default).Value r2.1]),())) .d) .d)) .d) (.k (.inr (x_,args,items)))
def zP3 (zbj:yC->yG->Bool×(yC×Int)) (x:zEf) (y:zEt):=zEU zbj x.1 x.2.2.2.2.1 y.1 y.2.1 y.2.2.1
def zEE (zbj:yC->yG->Bool×(yC×Int)) (n:Nat) (l:yG) (i:Int) (x_:At) (args:yA) (items:yE):=zy (zP3 zbj) (.inl default) n (l,(),(),(),i,()) (x_,args,items,())
def z4H (r:zYq):LTree ty:=.ite (isL r) (.done .ret [.lit (.slice none 0 0),.lit (.int .i64 (getL r))] []) (.done (.exit 2) [.ptr 512 0,.own 513,.own 514] [.box (base.enc 67 (getR r).1) false,.arr 23 (getR r).2.1 false,.arr 100 (getR r).2.2 false])
def z6k:LL ty zEf:=za (lSl 51) (za (zdR 512 0) (za (zdh 513) (za (zdh 514) (za zj zk))))
def z7m:BL ty zEt:=zff (zeK (λx=>(⟨x.1,⟨x.2.1,x.2.2.1⟩,x.2.2.2.1,x.2.2.2.2.1,x.2.2.2.2.2.1,x.2.2.2.2.2.2.1,⟨x.2.2.2.2.2.2.2.1,x.2.2.2.2.2.2.2.2.1,x.2.2.2.2.2.2.2.2.2.1⟩⟩:At)) (λx=>(x.Kind,x.Row.Table,x.Row.Seq,x.Ag,x.Func,x.Items,x.Op,x.Bd.Kind,x.Bd.Int,x.Bd.Text,())) (λ_=>rfl) (za (zI .i64) (za (zI .i64) (za (zI .i64) (za (lSl 23) (za (zI .i64) (za (lSl 100) (za (zI .i64) (za (zI .i64) (za (zI .i64) (za znV zk))))))))))) false (zdj 23 false (zdj 100 false (z6)))
def z6Y (x:zEm) (y:zEr):Nat:=(x.1.length+Int.toNat x.2.2.2.1+y.1.Ag.length+y.1.Items.length+y.2.1.length+1)
def z3v (x:zEf) (y:zEt):Nat:=(x.1.length+Int.toNat x.2.2.2.2.1+y.1.Ag.length+y.1.Items.length+y.2.1.length+y.2.2.1.length+1)
def zGL (zbj:yC->yG->Bool×(yC×Int)):=zbY base 128 [(47,zEH),(98,zJl),(148,(zuR zbj)),(213,zPb),(214,zOG),(215,zMw),(216,zR2)] [] [(8,(kpL [1,2,8,9])),(16,(kpL [1,2,8,12,13]))] [(8,1,(kpL [1,2,8])),(8,0,(kpL [4,5])),(16,3,(kpL [2,8,12])),(16,0,(kpL [4,5]))] [(8,spW z8b z9v (zRG zbj) (.inl default) z7e z6Y),(16,spW z6k z7m (zP3 zbj) (.inl default) z4H z3v)] []
theorem z6L (zbj:yC->yG->Bool×(yC×Int)):zA (zGL zbj) (lp (body f176) 0):=zp (id:=8) (hl:=rfl)
theorem z4N (zbj:yC->yG->Bool×(yC×Int)):zA (zGL zbj) (lp (body f176) 1):=zp (id:=16) (hl:=rfl)
def zU2 (zbj:yC->yG->Bool×(yC×Int)) (x_:At) (l:yG):Wy0 (yC×Int):=.i (x_.Kind==0) (.bn (zD6 l x_.Row) λr5=>.i (r5.2) (.k (r5.1,0)) (.bn (zE7 x_.Row) λr4=>.k (r4,0))) (.bn (zGp zbj (l.length+Int.toNat 0+x_.Ag.length+x_.Items.length+0+1) l 0 (At.mk x_.Kind x_.Row x_.Ag x_.Func x_.Items x_.Op x_.Bd) []) λr11=>.i (isL r11) (.k ([],getL r11)) (.bn (zEE zbj ((getR r11).1.length+Int.toNat 0+(getR r11).2.1.Ag.length+(getR r11).2.1.Items.length+(getR r11).2.2.length+0+1) (getR r11).1 0 (At.mk (getR r11).2.1.Kind (getR r11).2.1.Row (getR r11).2.1.Ag (getR r11).2.1.Func (getR r11).2.1.Items (getR r11).2.1.Op (getR r11).2.1.Bd) (getR r11).2.2 []) λr10=>.i (isL r10) (.k ([],getL r10)) (.i ((getR r10).1.Kind==1) (.i (decide ((0:Int)<=(0:Int))&&decide (0<Int.ofNat (getR r10).2.1.length)) (.i (decide ((0:Int)<=(1:Int))&&decide (1<Int.ofNat (getR r10).2.1.length)) (.bn (zvk ((getR r10).2.1.getD (Int.toNat 0) default) ((getR r10).2.1.getD (Int.toNat 1) default)) λr6=>.k (r6.1,r6.2)) .d) .d) (.i ((getR r10).1.Kind==2) (.i (decide ((0:Int)<=(0:Int))&&decide (0<Int.ofNat (getR r10).2.1.length)) (.bn (zvm ((getR r10).2.1.getD (Int.toNat 0) default)) λr7=>.k (r7.1,r7.2)) .d) (.i ((getR r10).1.Kind==3) (.i (decide ((0:Int)<=(0:Int))&&decide (0<Int.ofNat (getR r10).2.1.length)) (.bn (zri ((getR r10).2.1.getD (Int.toNat 0) default)) λr8=>.k (r8.1,r8.2)) .d) (.bn (zyD (getR r10).1.Func (getR r10).2.2 (getR r10).1.Op (getR r10).1.Bd) λr9=>.k (r9.1,r9.2)))))))
def zBP (zbj:yC->yG->Bool×(yC×Int)) (x_:At) (l:yG):=(zU2 zbj x_ l).fin default
theorem z1x (zbj:yC->yG->Bool×(yC×Int)) (z3T:SdP 148 (zuR zbj)):SdP 176 (zGV (zBP zbj)):=
 sT (cx':=(zGL zbj)) (zi ⟨zMM,zR6,z3T,z3V,z4R,z0A,z5P,trivial⟩) call176 func176 (lOK (aC (z6L zbj) (aC (z4N zbj) aN))) (sg:=⟨[.pure,.pure],[]⟩)
abbrev zyX:=yC×yG×yC×Int×yC×Int×yC×Int×Int×Unit
abbrev zQf:=yC×yG×yC×Int×yC×Int×Int
abbrev zyu:=yC×yG×yC×Int×yC×Int×Unit
abbrev zPV:=Int⊕(yC×yG×yC×Int×yC)
abbrev zys:=yC×yG×yC×Int×Unit
abbrev zPL:=Int⊕yC
def zAr (zbe:At->yG->Bool×(yC×Int)) (a:yC) (l:yG) (out_:yC) (i:Int) (t:yC) (k:Int) (x_:yC) (e:Int) (n_:Int):Wy zyX Unit zQf:=.i (decide (0<=i)&&decide (i<Int.ofNat a.length)) (.i (decide (0<=k)&&decide (k<Int.ofNat (a.getD i.toNat default).Fs.length)) (.i (decide (n_<((a.getD i.toNat default).Fs.getD k.toNat default).Exp)) (.i (e==0) (.bn (zxX t x_) λr8=>.h (a,l,out_,i,(r8.1),k,x_,(r8.2),(IntKind.i64.wrap (n_+1)),()) ()) (.k (a,l,out_,i,t,k,e))) (.k (a,l,out_,i,t,k,e))) .d) .d
def zIk (zbe:At->yG->Bool×(yC×Int)) (x:zyX) (y:Unit):=zAr zbe x.1 x.2.1 x.2.2.1 x.2.2.2.1 x.2.2.2.2.1 x.2.2.2.2.2.1 x.2.2.2.2.2.2.1 x.2.2.2.2.2.2.2.1 x.2.2.2.2.2.2.2.2.1
def zAn (zbe:At->yG->Bool×(yC×Int)) (n:Nat) (a:yC) (l:yG) (out_:yC) (i:Int) (t:yC) (k:Int) (x_:yC) (e:Int) (n_:Int):=zy (zIk zbe) default n (a,l,out_,i,t,k,x_,e,n_,()) ()
def zXy (r:zQf):LTree ty:=.done (.exit 4) [.sl 28 r.1,.sl 51 r.2.1,.sl 28 r.2.2.1,.lit (.int .i64 r.2.2.2.1),.sl 28 r.2.2.2.2.1,.lit (.int .i64 r.2.2.2.2.2.1),.lit (.int .i64 r.2.2.2.2.2.2)] []
def zZj:LL ty zyX:=za (lSl 28) (za (lSl 51) (za (lSl 28) (za zj (za (lSl 28) (za zj (za (lSl 28) (za zj (za zj zk))))))))
def zBN (zbe:At->yG->Bool×(yC×Int)) (a:yC) (l:yG) (out_:yC) (i:Int) (t:yC) (k:Int):Wy zyu Unit zPV:=.i (decide (0<=i)&&decide (i<Int.ofNat a.length)) (.i (decide (k<Int.ofNat (a.getD i.toNat default).Fs.length)) (.i (decide (0<=i)&&decide (i<Int.ofNat a.length)) (.i (decide (0<=k)&&decide (k<Int.ofNat (a.getD i.toNat default).Fs.length)) (.bn (zbe (At.mk ((a.getD i.toNat default).Fs.getD k.toNat default).At.Kind ((a.getD i.toNat default).Fs.getD k.toNat default).At.Row ((a.getD i.toNat default).Fs.getD k.toNat default).At.Ag ((a.getD i.toNat default).Fs.getD k.toNat default).At.Func ((a.getD i.toNat default).Fs.getD k.toNat default).At.Items ((a.getD i.toNat default).Fs.getD k.toNat default).At.Op ((a.getD i.toNat default).Fs.getD k.toNat default).At.Bd) l) λr11=>.bn (zAn zbe ((a.length+l.length+out_.length+i.toNat +t.length+k.toNat +r11.1.length+r11.2.toNat +Int.toNat 0+1)+zbV a+zbV out_+zbV t+zbV r11.1) a l out_ i t k r11.1 r11.2 0) λr10=>.i (r10.2.2.2.2.2.2 != 0) (.k (.inl (r10.2.2.2.2.2.2))) (.h ((r10.1),(r10.2.1),(r10.2.2.1),(r10.2.2.2.1),(r10.2.2.2.2.1),(IntKind.i64.wrap (r10.2.2.2.2.2.1+1)),()) ())) .d) .d) (.k (.inr (a,l,out_,i,t)))) .d
def zKy (zbe:At->yG->Bool×(yC×Int)) (x:zyu) (y:Unit):=zBN zbe x.1 x.2.1 x.2.2.1 x.2.2.2.1 x.2.2.2.2.1 x.2.2.2.2.2.1
def zBh (zbe:At->yG->Bool×(yC×Int)) (n:Nat) (a:yC) (l:yG) (out_:yC) (i:Int) (t:yC) (k:Int):=zy (zKy zbe) (.inl default) n (a,l,out_,i,t,k,()) ()
def zZH (r:zPV):LTree ty:=.ite (isL r) (.done .ret [.lit (.slice none 0 0),.lit (.int .i64 (getL r))] []) (.done (.exit 2) [.sl 28 (getR r).1,.sl 51 (getR r).2.1,.sl 28 (getR r).2.2.1,.lit (.int .i64 (getR r).2.2.2.1),.sl 28 (getR r).2.2.2.2] [])
def z0H:LL ty zyu:=za (lSl 28) (za (lSl 51) (za (lSl 28) (za zj (za (lSl 28) (za zj zk)))))
def zB0 (zbe:At->yG->Bool×(yC×Int)) (a:yC) (l:yG) (out_:yC) (i:Int):Wy zys Unit zPL:=.i (decide (i<Int.ofNat a.length)) (.i (decide (0<=i)&&decide (i<Int.ofNat a.length)) (.bn (zvq (a.getD i.toNat default).Cf) λr16=>.bn (zBh zbe ((a.length+l.length+out_.length+i.toNat +r16.length+Int.toNat 0+1)+zbV a+zbV out_+zbV r16) a l out_ i r16 0) λr15=>.i (isL r15) (.k (.inl (getL r15))) (.bn (zxT (getR r15).2.2.1 (getR r15).2.2.2.2) λr14=>.i (r14.2 != 0) (.k (.inl (r14.2))) (.h ((getR r15).1,(getR r15).2.1,(r14.1),(IntKind.i64.wrap ((getR r15).2.2.2.1+1)),()) ()))) .d) (.k (.inr out_))
def zKI (zbe:At->yG->Bool×(yC×Int)) (x:zys) (y:Unit):=zB0 zbe x.1 x.2.1 x.2.2.1 x.2.2.2.1
def zBO (zbe:At->yG->Bool×(yC×Int)) (n:Nat) (a:yC) (l:yG) (out_:yC) (i:Int):=zy (zKI zbe) (.inl default) n (a,l,out_,i,()) ()
def zYT (r:zPL):LTree ty:=.ite (isL r) (.done .ret [.lit (.slice none 0 0),.lit (.int .i64 (getL r))] []) (.done (.exit 0) [.sl 28 (getR r)] [])
def z15:LL ty zys:=za (lSl 28) (za (lSl 51) (za (lSl 28) (za zj zk)))
def zWk (x:zyX) (y:Unit):Nat:=((x.1.length+x.2.1.length+x.2.2.1.length+Int.toNat x.2.2.2.1+x.2.2.2.2.1.length+Int.toNat x.2.2.2.2.2.1+x.2.2.2.2.2.2.1.length+Int.toNat x.2.2.2.2.2.2.2.1+Int.toNat x.2.2.2.2.2.2.2.2.1+1)+zbV x.1+zbV x.2.2.1+zbV x.2.2.2.2.1+zbV x.2.2.2.2.2.2.1)
def zYv (x:zyu) (y:Unit):Nat:=((x.1.length+x.2.1.length+x.2.2.1.length+Int.toNat x.2.2.2.1+x.2.2.2.2.1.length+Int.toNat x.2.2.2.2.2.1+1)+zbV x.1+zbV x.2.2.1+zbV x.2.2.2.2.1)
def zZb (x:zys) (y:Unit):Nat:=((x.1.length+x.2.1.length+x.2.2.1.length+Int.toNat x.2.2.2.1+1)+zbV x.1+zbV x.2.2.1)
def zuQ (zbe:At->yG->Bool×(yC×Int)):=zbY base 89 [(46,zEG),(93,zJs),(94,zID),(176,(zGV zbe))] [] [(3,[(0,.keep),(1,.keep),(6,.sl 28),(7,.keep)]),(7,[(0,.keep),(1,.keep),(6,.keep),(7,.keep),(8,.sl 28),(9,.keep)]),(11,[(0,.keep),(1,.keep),(6,.keep),(7,.keep),(8,.sl 28),(9,.keep),(10,.keep),(11,.keep),(12,.keep)])] [(3,1,(kpL [6])),(3,0,(kpL [4,5])),(7,3,(kpL [0,1,6,7,8])),(7,0,(kpL [4,5])),(11,5,(kpL [0,1,6,7,8,9,11]))] [(11,spW zZj zbcZ (zIk zbe) default zXy zWk),(7,spW z0H zbcZ (zKy zbe) (.inl default) zZH zYv),(3,spW z15 zbcZ (zKI zbe) (.inl default) zYT zZb)] []
theorem zWr (zbe:At->yG->Bool×(yC×Int)):zA (zuQ zbe) (lp (body f148) 2):=zp (id:=11) (hl:=rfl)
theorem zYK (zbe:At->yG->Bool×(yC×Int)):zA (zuQ zbe) (lp (body f148) 1):=zp (id:=7) (hl:=rfl)
theorem zYG (zbe:At->yG->Bool×(yC×Int)):zA (zuQ zbe) (lp (body f148) 0):=zp (id:=3) (hl:=rfl)
def zMH (zbe:At->yG->Bool×(yC×Int)) (a:yC) (l:yG):Wy0 (yC×Int):=.bn (zBO zbe ((a.length+l.length+0+Int.toNat 0+1)+zbV a+zbV []) a l [] 0) λr20=>.i (isL r20) (.k ([],getL r20)) (.k (getR r20,0))
def zud (zbe:At->yG->Bool×(yC×Int)) (a:yC) (l:yG):=(zMH zbe a l).fin default
theorem zVk (zbe:At->yG->Bool×(yC×Int)) (zba9:SdP 176 (zGV zbe)):SdP 148 (zuR (zud zbe)):=
 sT (cx':=(zuQ zbe)) (zi ⟨zMz,zRy,zR7,zba9,trivial⟩) call148 func148 (lOK (aC (zYG zbe) (aC (zYK zbe) (aC (zWr zbe) aN)))) (sg:=⟨[.pure,.pure],[]⟩)
def zGw:Nat->(yC->yG->Bool×(yC×Int))×(At->yG->Bool×(yC×Int))
 | 0=>(λ_ _=>(false,default),λ_ _=>(false,default))
 | n+1=>(zud ((zGw n).2),zBP ((zGw n).1))
def zur (n:Nat):yC->yG->Bool×(yC×Int):=(zGw n).1
def zCb (n:Nat):At->yG->Bool×(yC×Int):=(zGw n).2
theorem z0s (n:Nat):zur (n+1)=zud (zCb n):=rfl
theorem z8M (n:Nat):zCb (n+1)=zBP (zur n):=rfl
theorem zU9:∀ n,SdP 148 (zuR (zur n))/\SdP 176 (zGV (zCb n))
 | 0=>⟨z8 call148 (λ_=>rfl),z8 call176 (λ_=>rfl)⟩
 | n+1=>by
  have ih:=zU9 n;exact ⟨zVk _ (ih.2),z1x _ (ih.1)⟩
def zLB:yC->yG->Bool×(yC×Int):=zur 1000
def zJY:Ab.Spec ty:=zuR zLB
theorem zYZ:SdP 148 zJY:=(zU9 1000).1
abbrev zsh:=yC×yG×Int×Unit
abbrev zHU:=Int⊕(yC×yG)
def zAp (a:yC) (l:yG) (i:Int):Wy zsh Unit zHU:=.i (decide (i<Int.ofNat l.length)) (.i (decide (0<=i)&&decide (i<Int.ofNat l.length)) (.bn (zeR (l.getD i.toNat default).To) λr0=>.i (!r0) (.k (.inl 1)) (.h (a,l,(IntKind.i64.wrap (i+1)),()) ())) .d) (.k (.inr (a,l)))
def zH7 (x:zsh) (y:Unit):=zAp x.1 x.2.1 x.2.2.1
def zAd (n:Nat) (a:yC) (l:yG) (i:Int):=zy (zH7) (.inl default) n (a,l,i,()) ()
def zWf (r:zHU):LTree ty:=.ite (isL r) (.done .ret [.lit (.slice none 0 0),.lit (.int .i64 (getL r))] []) (.done (.exit 0) [.sl 28 (getR r).1,.sl 51 (getR r).2] [])
def zZC:LL ty zsh:=za (lSl 28) (za (lSl 51) (za zj zk))
def zVQ (x:zsh) (y:Unit):Nat:=(x.1.length+x.2.1.length+Int.toNat x.2.2.1+1)
def zIb:=zbY base 28 [(16,zfc),(148,zJY)] [] [(4,(kpL [0,1,6]))] [(4,1,(kpL [0,1])),(4,0,(kpL [4,5]))] [(4,spW zZC zbcZ (zH7) (.inl default) zWf zVQ)] []
theorem zVO:zA zIb (lp (body f79) 0):=zp (id:=4) (hl:=rfl)
def zKe (a:yC) (l:yG):Wy0 (yC×Int):=.bn (zeR a) λr4=>.i (!r4) (.k ([],1)) (.bn (zAd (a.length+l.length+Int.toNat 0+1) a l 0) λr3=>.i (isL r3) (.k ([],getL r3)) (.bn (zLB (getR r3).1 (getR r3).2) λr2=>.k (r2.1,r2.2)))
def zkt (a:yC) (l:yG):=(zKe a l).fin default
def zE4:=zh z9u λx=>((zkt x.1 x.2.1).1,zbcO (zkt x.1 x.2.1).2)
theorem zS2:SdP 79 zE4:=
 sT (cx':=zIb) (zi ⟨zfD,zYZ,trivial⟩) call79 func79 (lOK (aC zVO aN)) (sg:=⟨[.pure,.pure],[]⟩)
abbrev zvU:=yC×yF×Unit×Int×Unit
abbrev zv3:=yG×Unit
abbrev zMO:=yC×yG
def zpv (a:yC) (present:yF) (i:Int) (l:yG):Wy zvU zv3 zMO:=.i (decide (i<Int.ofNat present.length)) (.i (decide (0<=i)&&decide (i<Int.ofNat present.length)) (.i (decide ((l.length+[Bg.mk (present.getD i.toNat default) zxR.2].length)*40<=zG)) (.h (a,present,(),(IntKind.i64.wrap (i+1)),()) ((l++[Bg.mk (present.getD i.toNat default) zxR.2]),())) .d) .d) (.k (a,l))
def zDu (x:zvU) (y:zv3):=zpv x.1 x.2.1 x.2.2.2.1 y.1
def zMQ (n:Nat) (a:yC) (present:yF) (i:Int) (l:yG):=zy (zDu) default n (a,present,(),i,()) (l,())
def z1l (r:zMO):LTree ty:=.done (.exit 0) [.sl 28 r.1,.own 116] [.arr 51 r.2 false]
def z3U:LL ty zvU:=za (lSl 28) (za (lSl 49) (za (zdh 116) (za zj zk)))
def z3p:BL ty zv3:=zdj 51 false (z6)
def z1T (x:zvU) (y:zv3):Nat:=(x.1.length+x.2.1.length+Int.toNat x.2.2.2.1+y.1.length+1000)
def zMV:=zbY base 29 [(77,zwO),(79,zE4)] [] [(3,(kpL [0,1,6,7]))] [(3,1,(kpL [0,6]))] [(3,spW z3U z3p (zDu) default z1l z1T)] []
theorem zZM:zA zMV (lp (body f43) 0):=zp (id:=3) (hl:=rfl)
def zPK (a:yC) (present:yF):Wy0 (yC×Int):=.bn (zMQ (a.length+present.length+Int.toNat 0+0+1000) a present 0 []) λr1=>.bn (zkt r1.1 r1.2) λr0=>.k (r0.1,r0.2)
def zwJ (a:yC) (present:yF):=(zPK a present).fin default
def z6H:AL base (yC×yF×Unit):=zc (ze (vSl 28)) (zc (ze (vSl 49)) zo)
def zH1:=zh z6H λx=>((zwJ x.1 x.2.1).1,zbcO (zwJ x.1 x.2.1).2)
theorem zXh:SdP 43 zH1:=
 sT (cx':=zMV) (zi ⟨zAV,zS2,trivial⟩) call43 func43 (lOK (aC zZM aN)) (sg:=⟨[.pure,.pure],[]⟩)
abbrev zyW:=yC×Unit×Int×Unit×Int×Unit
abbrev zyI:=yC×(Int×Unit×Unit)×yD×Unit
abbrev zQm:=yC×Int×yC×Int×yD
abbrev zx8:=yC×Unit×Int×Unit
abbrev zrM:=yC×Unit
def zrc (a:yC) (i:Int) (k:Int) (out_:yC) (t:Int) (b2:yD):Wy zyW zyI zQm:=.i (decide (0<=i)&&decide (i<Int.ofNat a.length)) (.i (decide (k<Int.ofNat (a.getD i.toNat default).Fs.length)) (.i (decide (0<=i)&&decide (i<Int.ofNat a.length)) (.i (decide (0<=k)&&decide (k<Int.ofNat (a.getD i.toNat default).Fs.length)) (.i (decide ((b2.length+[FO.mk (At.mk ((a.getD i.toNat default).Fs.getD k.toNat default).At.Kind ((a.getD i.toNat default).Fs.getD k.toNat default).At.Row ((a.getD i.toNat default).Fs.getD k.toNat default).At.Ag ((a.getD i.toNat default).Fs.getD k.toNat default).At.Func ((a.getD i.toNat default).Fs.getD k.toNat default).At.Items ((a.getD i.toNat default).Fs.getD k.toNat default).At.Op ((a.getD i.toNat default).Fs.getD k.toNat default).At.Bd) 1].length)*128<=zG)) (.h (a,(),i,(),(IntKind.i64.wrap (k+1)),()) (out_,(t,(),()),(b2++[FO.mk (At.mk ((a.getD i.toNat default).Fs.getD k.toNat default).At.Kind ((a.getD i.toNat default).Fs.getD k.toNat default).At.Row ((a.getD i.toNat default).Fs.getD k.toNat default).At.Ag ((a.getD i.toNat default).Fs.getD k.toNat default).At.Func ((a.getD i.toNat default).Fs.getD k.toNat default).At.Items ((a.getD i.toNat default).Fs.getD k.toNat default).At.Op ((a.getD i.toNat default).Fs.getD k.toNat default).At.Bd) 1]),())) .d) .d) .d) (.k (a,i,out_,t,b2))) .d
def zEW (x:zyW) (y:zyI):=zrc x.1 x.2.2.1 x.2.2.2.2.1 y.1 y.2.1.1 y.2.2.1
def zEz (n:Nat) (a:yC) (i:Int) (k:Int) (out_:yC) (t:Int) (b2:yD):=zy (zEW) default n (a,(),i,(),k,()) (out_,(t,(),()),b2,())
def z3M (r:zQm):LTree ty:=.done (.exit 2) [.sl 28 r.1,.own 196,.lit (.int .i64 r.2.1),.ptr 197 0] [.arr 28 r.2.2.1 false,.box ([.lit (.int .i64 r.2.2.2.1),.own 198]) false,.arr 69 r.2.2.2.2 false]
def z6J:LL ty zyW:=za (lSl 28) (za (zdh 196) (za zj (za (zdR 197 0) (za zj zk))))
def z62:BL ty zyI:=zdj 28 false (zff (za (zI .i64) (za (zdh 198) zk)) false (zdj 69 false (z6)))
def zrb (a:yC) (i:Int) (out_:yC):Wy zx8 zrM (yC):=.i (decide (i<Int.ofNat a.length)) (.bn (zEz (a.length+i.toNat +Int.toNat 0+out_.length+Int.toNat 1+0+1000) a i 0 out_ 1 []) λr1=>.bn (zxM r1.2.2.1 (TO.mk r1.2.2.2.1 r1.2.2.2.2)) λr0=>.h ((r1.1),(),(IntKind.i64.wrap (r1.2.1+1)),()) ((r0),())) (.k out_)
def zER (x:zx8) (y:zrM):=zrb x.1 x.2.2.1 y.1
def zEF (n:Nat) (a:yC) (i:Int) (out_:yC):=zy (zER) default n (a,(),i,()) (out_,())
def z67:LL ty zx8:=za (lSl 28) (za (zdh 196) (za zj zk))
def z7j:BL ty zrM:=zdj 28 false (z6)
def z3R (x:zyW) (y:zyI):Nat:=(x.1.length+Int.toNat x.2.2.1+Int.toNat x.2.2.2.2.1+y.1.length+Int.toNat y.2.1.1+y.2.2.1.length+1000)
def z4f (x:zx8) (y:zrM):Nat:=(x.1.length+Int.toNat x.2.2.1+y.1.length+1000)
def zEM:=zbY base 49 [(16,zfc),(58,zCC),(90,zDe)] [] [(5,(kpL [0,4,5])),(9,[(0,.keep),(4,.keep),(5,.keep),(6,.boxOwn [(1,69)]),(7,.keep)])] [(5,1,(kpL [4])),(9,3,(kpL [0,4,5,6]))] [(9,spW z6J z62 (zEW) default z3M z3R),(5,spW z67 z7j (zER) default zSR z4f)] []
theorem z3z:zA zEM (lp (body f41) 1):=zp (id:=9) (hl:=rfl)
theorem z3S:zA zEM (lp (body f41) 0):=zp (id:=5) (hl:=rfl)
def zR3 (a:yC):Wy0 (yC×Int):=.bn (zeR a) λr6=>.i (!r6) (.k ([],1)) (.bn (zEF (a.length+Int.toNat 0+0+1000) a 0 []) λr5=>.bn (zxd r5) λr4=>.k (r4,0))
def zy7 (a:yC):=(zR3 a).fin default
def z7w:AL base zrM:=zc (ze (vSl 28)) zo
def zKj:=zh z7w λx=>((zy7 x.1).1,zSs (zy7 x.1).2)
theorem zYB:SdP 41 zKj:=
 sT (cx':=zEM) (zi ⟨zfD,zGW,zKK,trivial⟩) call41 func41 (lOK (aC z3S (aC z3z aN))) (sg:=⟨[.own 28,.pure],[]⟩)
abbrev zen:=yC×yF×Unit
abbrev zcb:=yC×yC×yF×Unit
def zlQ (a:yC) (present:yF):Wy zen Unit (Bool):=.bn (zmN a present) λr2=>.bn (zwJ a present) λr1=>.i (r2.2==r1.2) (.bn (ziN r2.1 r1.1) λr0=>.k r0) (.k false)
def zlM (x:zen) (y:Unit):=zlQ x.1 x.2.1
def zua (n:Nat) (a:yC) (present:yF):=zy (zlM) default n (a,present,()) ()
def zGf:LL ty zen:=za (lSl 28) (za (lSl 49) zk)
def zlX (a:yC) (present:yF):Wy zen Unit (Bool):=.bn (zod a) λr9=>.bn (zy7 a) λr8=>.i (r9.2 != r8.2) (.k false) (.bn (ziN r9.1 r8.1) λr7=>.i (!r7) (.k false) (.bn (zua 1 a present) λr6=>.k r6))
def zlt (x:zen) (y:Unit):=zlX x.1 x.2.1
def zuM (n:Nat) (a:yC) (present:yF):=zy (zlt) default n (a,present,()) ()
def zmd (a:yC) (b:yC) (present:yF):Wy zcb Unit (Bool):=.bn (zwy a b) λr17=>.bn (zJP a b) λr16=>.i (r17.2 != r16.2) (.k false) (.bn (ziN r17.1 r16.1) λr15=>.i (!r15) (.k false) (.bn (zuM 1 a present) λr14=>.k r14))
def zmm (x:zcb) (y:Unit):=zmd x.1 x.2.1 x.2.2.1
def zvH (n:Nat) (a:yC) (b:yC) (present:yF):=zy (zmm) default n (a,b,present,()) ()
def zHT:LL ty zcb:=za (lSl 28) (za (lSl 28) (za (lSl 49) zk))
def zmb (a:yC) (b:yC) (present:yF):Wy zcb Unit (Bool):=.bn (zxg a b) λr25=>.bn (zK8 a b) λr24=>.i (r25.2 != r24.2) (.k false) (.bn (ziN r25.1 r24.1) λr23=>.i (!r23) (.k false) (.bn (zvH 1 a b present) λr22=>.k r22))
def zmk (x:zcb) (y:Unit):=zmb x.1 x.2.1 x.2.2.1
def zvG (n:Nat) (a:yC) (b:yC) (present:yF):=zy (zmk) default n (a,b,present,()) ()
def zmj (a:yC) (b:yC) (present:yF):Wy zcb Unit (Bool):=.bn (zBI 30 [a,b]) λr31=>.i (!r31) (.k true) (.i (decide (Int.ofNat present.length>4)) (.k true) (.bn (zvG 1 a b present) λr30=>.k r30))
def zmi (x:zcb) (y:Unit):=zmj x.1 x.2.1 x.2.2.1
def zvJ (n:Nat) (a:yC) (b:yC) (present:yF):=zy (zmi) default n (a,b,present,()) ()
def zeo:=zbds zbH 104 [(12,zPl),(13,zUt),(30,zuy),(35,zIn),(37,zIj),(38,zUv),(39,zUf),(40,zC1),(41,zKj),(42,zCm),(43,zH1)] [] [(3,(kpL [0,1,2])),(5,(kpL [0,1,2])),(9,(kpL [0,1,2])),(13,(kpL [0,2])),(17,(kpL [0,2]))] [(3,0,(kpL [6])),(5,0,(kpL [6])),(9,0,(kpL [6])),(13,0,(kpL [6])),(17,0,(kpL [6]))] [] [] [(17,spW zGf zbcZ (zlM) default z9Q λx y=>(1)),(13,spW zGf zbcZ (zlt) default z9Q λx y=>(1)),(9,spW zHT zbcZ (zmm) default z9Q λx y=>(1)),(5,spW zHT zbcZ (zmk) default z9Q λx y=>(1)),(3,spW zHT zbcZ (zmi) default z9Q λx y=>(1))]
theorem zF1:zHh zeo (jn (body f11) 17):=zI6 (id:=17) (hl:=rfl)
theorem zFT:zHh zeo (jn (body f11) 13):=zI6 (id:=13) (hl:=rfl)
theorem zGg:zHh zeo (jn (body f11) 9):=zI6 (id:=9) (hl:=rfl)
theorem zGk:zHh zeo (jn (body f11) 5):=zI6 (id:=5) (hl:=rfl)
theorem zGm:zHh zeo (jn (body f11) 3):=zI6 (id:=3) (hl:=rfl)
def zxn (a:yC) (b:yC) (present:yF):Wy0 (Bool):=.bn (zvJ 1 a b present) λr34=>.k r34
def zeY (a:yC) (b:yC) (present:yF):=(zxn a b present).fin default
def zJy:AL zbH zcb:=zc (ze (vSl 28)) (zc (ze (vSl 28)) (zc (ze (vSl 49)) zo))
def zk4:=zh zJy λx=>((zeY x.1 x.2.1 x.2.2.1).1,zYA (zeY x.1 x.2.1 x.2.2.1).2)
theorem zEQ:Sound Tryz.prog zbH 11 zk4:=
 z2F (cx':=zeo) zGn zQi zbg4 (zbdu ⟨z34,z8z.nodr,zyY.nodr,zWL,zV8,z7I.nodr,z9j.nodr,zOB,zYB.nodr,zNj,zXh.nodr,trivial⟩) call11 func11 (c:=body f11) (by kernel_rfl) (zX9 (l:=[]) (by kernel_rfl) trivial (js:=[jn (body f11) 3,jn (body f11) 5,jn (body f11) 9,jn (body f11) 13,jn (body f11) 17]) (by kernel_rfl) ⟨zGm,zGk,zGg,zFT,zF1,trivial⟩) (sg:=⟨[.pure],[]⟩)
def trV (v:Value):TT:=.l [.i v.Kind,.i v.Int,trB v.Text]
mutual
def zdm:At->TT
 | ⟨k,r,a,f,i,o,b⟩=>.l [.i k,.i r.Table,.i r.Seq,.l (zy8 a),.i f,.l (zhC i),.i o,trV b]
def zig:Fc->TT
 | ⟨x,e⟩=>.l [zdm x,.i e]
def zbD:yD->List TT
 | []=>[]
 | x::r=>zig x::zbD r
def zt5:Term->TT
 | ⟨c,fs⟩=>.l [.l (zbD fs),.i c]
def zcQ:yC->List TT
 | []=>[]
 | x::r=>zt5 x::zcQ r
def zy8:yA->List TT
 | []=>[]
 | x::r=>.l (zcQ x)::zy8 r
def zbi:Wd->TT
 | ⟨v,a⟩=>.l [trV v,.l (zcQ a)]
def zhC:yE->List TT
 | []=>[]
 | x::r=>zbi x::zhC r
end
theorem zzH:∀ l,zbD l=l.map zig
 | []=>by rw [zbD]; rfl
 | x::r=>by rw [zbD,zzH r]; rfl
theorem zJT:∀ l,zcQ l=l.map zt5
 | []=>by rw [zcQ]; rfl
 | x::r=>by rw [zcQ,zJT r]; rfl
theorem zGG:∀ l,zy8 l=l.map λx=>.l (zcQ x)
 | []=>by rw [zy8]; rfl
 | x::r=>by rw [zy8,zGG r]; rfl
theorem znl:∀ l,zhC l=l.map zbi
 | []=>by rw [zhC]; rfl
 | x::r=>by rw [zhC,znl r]; rfl
theorem zLN:∀ a b:List UInt8,(a.map λx=>TT.i (x.toNat:Int))=(b.map λx=>TT.i (x.toNat:Int))->a=b
 | [],[]=>λ_=>rfl
 | [],_::_=>λh=>by simp at h
 | _::_,[]=>λh=>by simp at h
 | x::a,y::b=>λh=>by
  simp only [List.map,qj,TT.i.injEq] at h;rw [zLN a b h.2,UInt8.toNat_inj.1 (Int.ofNat.inj h.1)]
theorem zbhk {a b:Value} (h:trV a=trV b):a=b:=by
 obtain ⟨k,n,s⟩:=a; obtain ⟨k',n',s'⟩:=b;simp only [trV,trB,TT.l.injEq,qj,TT.i.injEq,and_true] at h;obtain ⟨rfl,rfl,h⟩:=h;have:=zLN _ _ h;obtain ⟨⟨l⟩⟩:=s; obtain ⟨⟨l'⟩⟩:=s';simp only at this; subst this; rfl
mutual
theorem zVT:∀ a b:At,zdm a=zdm b->a=b
 | ⟨k,r,a,f,i,o,v⟩,⟨k',r',a',f',i',o',v'⟩=>λh=>by
  simp only [zdm,TT.l.injEq,qj,TT.i.injEq,and_true] at h;obtain ⟨rfl,h1,h2,h3,rfl,h4,rfl,h5⟩:=h;obtain ⟨t,s⟩:=r; obtain ⟨t',s'⟩:=r';simp only at h1 h2; subst h1 h2;rw [z8Z a a' h3,z5h i i' h4,zbhk h5]
theorem z0c:∀ a b:Fc,zig a=zig b->a=b
 | ⟨x,e⟩,⟨x',e'⟩=>λh=>by
  simp only [zig,TT.l.injEq,qj,TT.i.injEq,and_true] at h;rw [zVT x x' h.1,h.2]
theorem zEq:∀ a b:yD,zbD a=zbD b->a=b
 | [],[]=>λ_=>rfl
 | [],_::_=>λh=>by simp [zbD] at h
 | _::_,[]=>λh=>by simp [zbD] at h
 | x::a,y::b=>λh=>by
  simp only [zbD,qj] at h;rw [z0c x y h.1,zEq a b h.2]
theorem z8T:∀ a b:Term,zt5 a=zt5 b->a=b
 | ⟨c,l⟩,⟨c',l'⟩=>λh=>by
  simp only [zt5,TT.l.injEq,qj,TT.i.injEq,and_true] at h;rw [zEq l l' h.1,h.2]
theorem zJZ:∀ a b:yC,zcQ a=zcQ b->a=b
 | [],[]=>λ_=>rfl
 | [],_::_=>λh=>by simp [zcQ] at h
 | _::_,[]=>λh=>by simp [zcQ] at h
 | x::a,y::b=>λh=>by
  simp only [zcQ,qj] at h;rw [z8T x y h.1,zJZ a b h.2]
theorem z8Z:∀ a b:yA,zy8 a=zy8 b->a=b
 | [],[]=>λ_=>rfl
 | [],_::_=>λh=>by simp [zy8] at h
 | _::_,[]=>λh=>by simp [zy8] at h
 | x::a,y::b=>λh=>by
  simp only [zy8,qj,TT.l.injEq] at h;rw [zJZ x y h.1,z8Z a b h.2]
theorem z7K:∀ a b:Wd,zbi a=zbi b->a=b
 | ⟨c,l⟩,⟨c',l'⟩=>λh=>by
  simp only [zbi,TT.l.injEq,qj,and_true] at h;rw [zbhk h.1,zJZ l l' h.2]
theorem z5h:∀ a b:yE,zhC a=zhC b->a=b
 | [],[]=>λ_=>rfl
 | [],_::_=>λh=>by simp [zhC] at h
 | _::_,[]=>λh=>by simp [zhC] at h
 | x::a,y::b=>λh=>by
  simp only [zhC,qj] at h;rw [z7K x y h.1,z5h a b h.2]
end
def zc3 (P:yC->Prop) (x:At):Prop:=
 (x.Ag.length<=1000000/\x.Items.length<=1000000/\x.Bd.Text.size<=1000000000000)/\(∀ a∈x.Ag,P a)/\∀ w∈x.Items,w.Value.Text.size<=1000000000000/\P w.Ann
def zbO (P:yC->Prop) (l:yD):Prop:=l.length<=1000000/\∀ f∈l,zc3 P f.At
def zm:Nat->yC->Prop
 | 0,_=>False
 | n+1,a=>a.length<=1000000/\∀ t∈a,zbO (zm n) t.Fs
theorem zc3.imp {P Q:yC->Prop} (h:∀ a,P a->Q a) {x:At} (hx:zc3 P x):zc3 Q x:=⟨hx.1,λa ha=>h a (hx.2.1 a ha),λw hw=>⟨(hx.2.2 w hw).1,h _ (hx.2.2 w hw).2⟩⟩
theorem zm.succ:∀ (n:Nat) (a:yC),zm n a->zm (n+1) a
 | 0,_,h=>h.elim
 | n+1,a,h=>⟨h.1,λt ht=>⟨(h.2 t ht).1,λf hf=>((h.2 t ht).2 f hf).imp (zm.succ n)⟩⟩
theorem zm.mono {n m:Nat} {a:yC} (h:zm n a) (hm:n<=m):zm m a:=by
 obtain ⟨k,rfl⟩:=Nat.exists_eq_add_of_le hm;clear hm;induction k with
 | zero=>exact h
 | succ k ih=>exact zm.succ _ _ ih
def cR (a b:RowID):Int:=if a.Table<b.Table then -1 else if b.Table<a.Table then 1 else if a.Seq<b.Seq then -1 else if b.Seq<a.Seq then 1 else 0
theorem zKz:Ord3 cR where
 eq:=λx y=>by
  obtain ⟨a,b⟩:=x; obtain ⟨c,d⟩:=y;simp only [cR,RowID.mk.injEq]
  repeat' split
  all_goals omega
 swap:=λx y=>by
  simp only [cR]
  repeat' split
  all_goals omega
 trans:=λx y z=>by
  simp only [cR]
  repeat' split
  all_goals omega
abbrev cS:yF->yF->Int:=zEy cR
theorem zbmY:Ord3 cS:=zbkG zKz
abbrev nR:yF->yF:=zW8 cR
abbrev fam (l:yB):yB:=zW8 cS (l.map nR)
def sub (a b:yF):Bool:=a.all λx=>decide (x∈b)
theorem zbha {a b:yF}:sub a b=true↔∀ x∈a,x∈b:=by simp [sub]
theorem z2U {l:yB} {z:yF}:z∈fam l↔∃ s∈l,nR s=z:=by
 rw [z0f zbmY,List.mem_map]
theorem zblY {l:yB} {z:yF} (h:z∈fam l):zAj cR z:=by
 obtain ⟨s,_,rfl⟩:=z2U.1 h;exact zRD zKz s
theorem z05 {l:yF} {z:RowID}:z∈nR l↔z∈l:=z0f zKz l z
theorem zbhf {l:yF} (h:zAj cR l):nR l=l:=zbhK zKz h
def z2E (al:yB) (s:yF):Bool:=al.all λt=> !(decide (t≠s)&&sub t s)
theorem zbbB {al:yB} {s:yF}:z2E al s=true↔∀ t∈al,(∀ x∈t,x∈s)->t=s:=by
 unfold z2E;rw [List.all_eq_true];constructor
 ·intro h t ht hs;have:=h t ht;rw [zbha.2 hs] at this
  simpa using this
 ·intro h t ht;by_cases hs:sub t s=true
  ·have:=h t ht (zbha.1 hs);simp [this]
  ·simp [hs]
abbrev zbaV (l:yB):yB:=(fam l).filter (z2E (fam l))
abbrev prod (a b:yB):yB:=fam (a.flatMap λx=>b.map λy=>nR (x++y))
theorem zbet {a b:yB} {z:yF}:z∈prod a b↔∃ x∈a,∃ y∈b,nR (x++y)=z:=by
 rw [z2U];constructor
 ·rintro ⟨s,hs,rfl⟩
  obtain ⟨x,hx,hs⟩:=List.mem_flatMap.1 hs;obtain ⟨y,hy,rfl⟩:=List.mem_map.1 hs;exact ⟨x,hx,y,hy,(zbhf (zRD zKz _)).symm⟩
 ·rintro ⟨x,hx,y,hy,rfl⟩
  exact ⟨nR (x++y),List.mem_flatMap.2 ⟨x,hx,List.mem_map.2 ⟨y,hy,rfl⟩⟩,zbhf (zRD zKz _)⟩
theorem zbnl {a b:yF} (ha:zAj cR a) (hb:zAj cR b) (h1:∀ x∈a,x∈b) (h2:∀ x∈b,x∈a):a=b:=zJJ zKz ha hb λx=>⟨h1 x,h2 x⟩
theorem zbnm {a b:yF} (ha:zAj cR a) (hb:zAj cR b) (h1:∀ x∈a,x∈b) (hne:a≠b):a.length<b.length:=by
 by_cases h:∀ x∈b,x∈a
 ·exact absurd (zbnl ha hb h1 h) hne
 ·obtain ⟨x,hx⟩:=Classical.not_forall.1 h;obtain ⟨hxb,hxa⟩:=Classical.not_imp.1 hx
  have:=zuN (l:=x::a) (l':=b) (List.nodup_cons.2 ⟨hxa,zbhq zKz ha⟩) λy hy=>by
   rcases qd.1 hy with rfl | hy
   ·exact hxb
   ·exact h1 y hy
  simp at this; omega
theorem zbci (al:yB) (hs:∀ s∈al,zAj cR s):∀ (n:Nat) (s:yF),s.length<=n->s∈al->∃ t∈al,z2E al t=true/\∀ x∈t,x∈s
 | n,s,hn,hm=>by
  by_cases h:z2E al s=true
  ·exact ⟨s,hm,h,λx hx=>hx⟩
  ·have h':¬ ∀ t∈al,(∀ x∈t,x∈s)->t=s:=λh'=>h (zbbB.2 h')
   obtain ⟨t,ht⟩:=Classical.not_forall.1 h';obtain ⟨htm,ht⟩:=Classical.not_imp.1 ht;obtain ⟨hts,hne⟩:=Classical.not_imp.1 ht;have hlt:=zbnm (hs t htm) (hs s hm) hts hne;cases n with
   | zero=>omega
   | succ n=>
    obtain ⟨u,hu,hl,hsub⟩:=zbci al hs n t (by omega) htm
    exact ⟨u,hu,hl,λx hx=>hts x (hsub x hx)⟩
theorem zbj8 {l:yB} {z:yF}:z∈zbaV l↔z∈fam l/\∀ t∈fam l,(∀ x∈t,x∈z)->t=z:=by
 rw [List.mem_filter,zbbB]
theorem zbkg {l:yB} {s:yF} (h:s∈fam l):∃ t∈zbaV l,∀ x∈t,x∈s:=by
 obtain ⟨t,h1,h2,h3⟩:=zbci (fam l) (λs hs=>zblY hs) s.length s (Nat.le_refl _) h
 exact ⟨t,List.mem_filter.2 ⟨h1,h2⟩,h3⟩
mutual
def zbh3:At->yB
 | ⟨k,r,a,_,_,_,_⟩=>if k=2 then (zWM a).getD 0 default else [[r]]
def zQc:yD->yB->yB
 | [],s=>s
 | ⟨x,_⟩::r,s=>zQc r (zbaV (prod s (zbh3 x)))
def zUp:yC->yB
 | []=>[]
 | ⟨_,fs⟩::r=>zQc fs [[]]++zUp r
def zWM:yA->List (yB)
 | []=>[]
 | a::r=>zbaV (zUp a)::zWM r
end
mutual
def zbm9:At->Bool
 | ⟨k,_,a,_,_,_,_⟩=>k==0||(k==2&&(zbjd a).getD 0 true)
def zbce:yD->Bool
 | []=>true
 | ⟨x,_⟩::r=>zbm9 x&&zbce r
def zblr:yC->Bool
 | []=>true
 | ⟨_,fs⟩::r=>zbce fs&&zblr r
def zbjd:yA->List Bool
 | []=>[]
 | a::r=>zblr a::zbjd r
end
mutual
def zbd3 (S:yF):At->Prop
 | ⟨k,r,a,_,_,_,_⟩=>if k=2 then (zOO S a).getD 0 False else r∈S
def zKA (S:yF):yD->Prop
 | []=>True
 | ⟨x,_⟩::r=>zbd3 S x/\zKA S r
def z2G (S:yF):yC->Prop
 | []=>False
 | ⟨_,fs⟩::r=>zKA S fs\/z2G S r
def zOO (S:yF):yA->List Prop
 | []=>[]
 | a::r=>z2G S a::zOO S r
end
def zwE (S:yF) (l:yB):Prop:=∃ s∈l,∀ x∈s,x∈S
theorem zbb6 (S:yF) (l:yB):zwE S (zbaV l)↔zwE S l:=by
 constructor
 ·rintro ⟨s,hs,h⟩
  obtain ⟨u,hu,e⟩:=z2U.1 (zbj8.1 hs).1;exact ⟨u,hu,λx hx=>h x (by rw [<- e]; exact z05.2 hx)⟩
 ·rintro ⟨u,hu,h⟩
  obtain ⟨t,ht,hts⟩:=zbkg (z2U.2 ⟨u,hu,rfl⟩);exact ⟨t,ht,λx hx=>h x (z05.1 (hts x hx))⟩
theorem zbjg (S:yF) (a b:yB):zwE S (prod a b)↔zwE S a/\zwE S b:=by
 constructor
 ·rintro ⟨s,hs,h⟩
  obtain ⟨x,hx,y,hy,e⟩:=zbet.1 hs;subst e;exact ⟨⟨x,hx,λz hz=>h z (z05.2 (by simp [hz]))⟩,⟨y,hy,λz hz=>h z (z05.2 (by simp [hz]))⟩⟩
 ·rintro ⟨⟨x,hx,h1⟩,⟨y,hy,h2⟩⟩
  refine ⟨nR (x++y),zbet.2 ⟨x,hx,y,hy,rfl⟩,λz hz=> ?_⟩
  rcases List.mem_append.1 (z05.1 hz) with hz | hz
  ·exact h1 z hz
  ·exact h2 z hz
theorem zbfY (S:yF) (a b:yB):zwE S (a++b)↔zwE S a\/zwE S b:=by
 unfold zwE;simp only [List.mem_append];constructor
 ·rintro ⟨s,hs | hs,h⟩
  ·exact .inl ⟨s,hs,h⟩
  ·exact .inr ⟨s,hs,h⟩
 ·rintro (⟨s,hs,h⟩ | ⟨s,hs,h⟩)
  ·exact ⟨s,.inl hs,h⟩
  ·exact ⟨s,.inr hs,h⟩
section
variable (S:yF)
mutual
theorem zbhv:∀ x:At,zwE S (zbh3 x)↔zbd3 S x
 | ⟨k,r,a,_,_,_,_⟩=>by
  rw [zbh3,zbd3];by_cases hk:k=2
  ·rw [if_pos hk,if_pos hk];exact z9x a 0
  ·rw [if_neg hk,if_neg hk];unfold zwE;simp
theorem zYm:∀ (l:yD) (s:yB),zwE S (zQc l s)↔zwE S s/\zKA S l
 | [],s=>by rw [zQc,zKA]; simp
 | ⟨x,e⟩::r,s=>by rw [zQc,zKA,zYm r,zbb6,zbjg,zbhv x,and_assoc]
theorem z4Y:∀ a:yC,zwE S (zUp a)↔z2G S a
 | []=>by rw [zUp,z2G]; simp [zwE]
 | ⟨c,fs⟩::r=>by
  rw [zUp,z2G,zbfY,zYm fs,z4Y r];have:zwE S [[]]:=⟨[],by simp,λx hx=>by cases hx⟩
  simp [this]
theorem z9x:∀ (l:yA) (i:Nat),zwE S ((zWM l).getD i default)↔(zOO S l).getD i False
 | [],i=>by rw [zWM,zOO]; simp [zwE,default]
 | a::r,0=>by
  rw [zWM,zOO];show zwE S (zbaV (zUp a))↔z2G S a;rw [zbb6,z4Y a]
 | a::r,i+1=>by
  rw [zWM,zOO];show zwE S ((zWM r).getD i default)↔(zOO S r).getD i False;exact z9x r i
end
end
def dvF (a b:yD):Bool:=a.all λf=>b.any λg=>decide (f.Exp<=g.Exp)&&decide (f.At=g.At)
theorem zbaf {a b:yD}:dvF a b=true↔∀ f∈a,∃ g∈b,f.Exp<=g.Exp/\f.At=g.At:=by
 unfold dvF;simp only [List.all_eq_true,List.any_eq_true,qc,qe]
theorem zbdC (a:yD):dvF a a=true:=zbaf.2 λf hf=>⟨f,hf,Int.le_refl _,rfl⟩
def cFx (f g:Fc):Int:=zba (zig f) (zig g)
theorem zXd {α:Type} (e:α->TT) (he:∀ a b,e a=e b->a=b):Ord3 λa b=>zba (e a) (e b) where
 eq x y:=⟨λh=>he _ _ (ztQ _ _ h),λh=>by subst h; exact zFq _⟩
 swap x y:=by rw [zg1 (e x) (e y)]; omega
 trans x y z h1 h2:=by
  have h3:zba (e x) (e z)<=0:=zyi _ _ _ (Int.le_of_lt h1) (Int.le_of_lt h2);by_cases h4:zba (e x) (e z)=0
  ·have h5:=ztQ _ _ h4;rw [h5,zg1 (e y) (e z)] at h1;omega
  ·omega
theorem zboI:Ord3 cFx:=zXd zig z0c
abbrev zI0 (l:yD):Prop:=l.Pairwise λf g=>zba (zdm f.At) (zdm g.At)<0
theorem zI0.sasc {l:yD} (h:zI0 l):zAj cFx l:=h.imp λ{f g} hfg=>by
 obtain ⟨x,e⟩:=f; obtain ⟨y,e'⟩:=g;show zba (zig ⟨x,e⟩) (zig ⟨y,e'⟩)<0;have hfg:zba (zdm x) (zdm y)<0:=hfg;simp only [zig,zba,zbK];rw [if_neg (by omega)]
 exact hfg
theorem zI0.uniq {l:yD} (h:zI0 l):∀ f∈l,∀ g∈l,f.At=g.At->f=g:=by
 induction l with
 | nil=>intro f hf; cases hf
 | cons x r ih=>
  have h:=qi.1 h
  have ne:∀ g∈r,x.At≠g.At:=λg hg e=>by
   have:=h.1 g hg;rw [e,zFq] at this; omega
  intro f hf g hg e;rcases qd.1 hf with e1 | hf1
  ·rcases qd.1 hg with e2 | hg1
   ·rw [e1,e2]
   ·rw [e1] at e; exact absurd e (ne g hg1)
  ·rcases qd.1 hg with e2 | hg1
   ·rw [e2] at e; exact absurd e.symm (ne f hf1)
   ·exact ih h.2 f hf1 g hg1 e
theorem zbdw {a b:yD} (ha:zI0 a) (hb:zI0 b) (h1:dvF a b=true) (h2:dvF b a=true):a=b:=by
 have key:∀ {a b:yD},zI0 a->zI0 b->dvF a b=true->dvF b a=true->∀ f∈a,f∈b:=by
  intro a b ha hb h1 h2 f hf;obtain ⟨g,hg,e1,e2⟩:=zbaf.1 h1 f hf;obtain ⟨f',hf',e3,e4⟩:=zbaf.1 h2 g hg;have:=ha.uniq f hf f' hf' (e2.trans e4);subst this
  have:f=g:=by
   obtain ⟨x,n⟩:=f; obtain ⟨y,m⟩:=g;simp only at e1 e2 e3 e4;subst e2;have:n=m:=by omega
   subst this; rfl
  subst this; exact hg
 exact zJJ zboI ha.sasc hb.sasc λx=>⟨key ha hb h1 h2 x,key hb ha h2 h1 x⟩
def cL (a b:yD):Int:=zba (.l (zbD a)) (.l (zbD b))
theorem z9U:Ord3 cL:=zXd (λa=>.l (zbD a)) λa b h=>zEq _ _ (TT.l.inj h)
structure Canon (a:yC):Prop where
 asc:a.Pairwise λt u=>cL t.Fs u.Fs<0
 fac:∀ t∈a,zI0 t.Fs
theorem Canon.tail {t:Term} {a:yC} (h:Canon (t::a)):Canon a:=⟨(qi.1 h.asc).2,λx hx=>h.fac x (by simp [hx])⟩
theorem Canon.uniq {a:yC} (h:Canon a):∀ t∈a,∀ u∈a,t.Fs=u.Fs->t=u:=by
 have hp:=h.asc;clear h;induction a with
 | nil=>intro t ht; cases ht
 | cons x r ih=>
  have hp:=qi.1 hp
  have ne:∀ g∈r,x.Fs≠g.Fs:=λg hg e=>by
   have:=hp.1 g hg;rw [e,z9U.refl] at this; omega
  intro f hf g hg e;rcases qd.1 hf with e1 | hf1
  ·rcases qd.1 hg with e2 | hg1
   ·rw [e1,e2]
   ·rw [e1] at e; exact absurd e (ne g hg1)
  ·rcases qd.1 hg with e2 | hg1
   ·rw [e2] at e; exact absurd e.symm (ne f hf1)
   ·exact ih hp.2 f hf1 g hg1 e
def zTg (a:yC) (t:Term):Bool:=a.all λu=> !dvF u.Fs t.Fs||decide (u.Fs=t.Fs)
theorem zWs {a:yC} {t:Term}:zTg a t=true↔∀ u∈a,dvF u.Fs t.Fs=true->u.Fs=t.Fs:=by
 unfold zTg;simp only [List.all_eq_true,Bool.or_eq_true,Bool.not_eq_true',qe];constructor
 ·intro h u hu hd;rcases h u hu with h | h
  ·rw [hd] at h; cases h
  ·exact h
 ·intro h u hu;cases hd:dvF u.Fs t.Fs with
  | false=>exact .inl rfl
  | true=>exact .inr (h u hu hd)
def zx4 (a:yC):yC:=(a.filter (zTg a)).map λt=>⟨1,t.Fs⟩
theorem zEY {a:yC} {t:Term}:t∈zx4 a↔∃ u∈a,zTg a u=true/\t=⟨1,u.Fs⟩:=by
 unfold zx4;rw [List.mem_map];constructor
 ·rintro ⟨u,hu,rfl⟩
  have:=List.mem_filter.1 hu;exact ⟨u,this.1,this.2,rfl⟩
 ·rintro ⟨u,h1,h2,rfl⟩
  exact ⟨u,List.mem_filter.2 ⟨h1,h2⟩,rfl⟩
theorem zWJ {a:yC} (h:Canon a):Canon (zx4 a):=by
 refine ⟨?_,λt ht=> ?_⟩
 ·unfold zx4;rw [List.pairwise_map];exact h.asc.filter _
 ·obtain ⟨u,hu,_,rfl⟩:=zEY.1 ht;exact h.fac u hu
def leS (a b:yC):Bool:=a.all λt=>b.any λu=>dvF u.Fs t.Fs
theorem zblU {a b:yC}:leS a b=true↔∀ t∈a,∃ u∈b,dvF u.Fs t.Fs=true:=by
 unfold leS;simp only [List.all_eq_true,List.any_eq_true]
theorem zbjl {a b:yC} (ha:Canon a) (hb:Canon b) (h:∀ t,t∈a↔t∈b):a=b:=by
 have hp:=ha.asc; have hq:=hb.asc;clear ha hb;induction a generalizing b with
 | nil=>
  cases b with
  | nil=>rfl
  | cons y s=>exact absurd ((h y).2 (by simp)) (by simp)
 | cons x r ih=>
  cases b with
  | nil=>exact absurd ((h x).1 (by simp)) (by simp)
  | cons y s=>
   have hp':=qi.1 hp;have hq':=qi.1 hq
   have hxy:x=y:=by
    rcases qd.1 ((h x).1 (by simp)) with e | hx
    ·exact e
    ·rcases qd.1 ((h y).2 (by simp)) with e | hy
     ·exact e.symm
     ·exact absurd (hp'.1 y hy) (z9U.asymm (hq'.1 x hx))
   subst hxy;congr 1;refine ih (λz=>⟨λhz=> ?_,λhz=> ?_⟩) hp'.2 hq'.2
   ·rcases qd.1 ((h z).1 (by simp [hz])) with e | hz'
    ·subst e; exact absurd (hp'.1 _ hz) (z9U.irrefl _)
    ·exact hz'
   ·rcases qd.1 ((h z).2 (by simp [hz])) with e | hz'
    ·subst e; exact absurd (hq'.1 _ hz) (z9U.irrefl _)
    ·exact hz'
def zblo (a b s:yC):Prop:=∀ l:yD,(∃ t∈s,t.Fs=l)↔(∃ t∈a,t.Fs=l)\/∃ t∈b,t.Fs=l
theorem zblo.le {a b s c:yC} (h:zblo a b s):leS s c=true↔leS a c=true/\leS b c=true:=by
 simp only [zblU];constructor
 ·intro hs;refine ⟨λt ht=> ?_,λt ht=> ?_⟩
  ·obtain ⟨t',ht',e⟩:=(h t.Fs).2 (.inl ⟨t,ht,rfl⟩);rw [<- e]; exact hs t' ht'
  ·obtain ⟨t',ht',e⟩:=(h t.Fs).2 (.inr ⟨t,ht,rfl⟩);rw [<- e]; exact hs t' ht'
 ·rintro ⟨h1,h2⟩ t ht
  rcases (h t.Fs).1 ⟨t,ht,rfl⟩ with ⟨u,hu,e⟩ | ⟨u,hu,e⟩
  ·rw [<- e]; exact h1 u hu
  ·rw [<- e]; exact h2 u hu
theorem zl7:∀ {l:yD},zuF l->∀ x∈l,zy5 x
 | [],_,x,hx=>by cases hx
 | y::r,h,x,hx=>by
  unfold zuF at h;rcases qd.1 hx with rfl | hx
  ·exact h.1
  ·exact zl7 h.2 x hx
theorem zqr:∀ {l:yC},zgo l->∀ x∈l,zDZ x
 | [],_,x,hx=>by cases hx
 | y::r,h,x,hx=>by
  unfold zgo at h;rcases qd.1 hx with rfl | hx
  ·exact h.1
  ·exact zqr h.2 x hx
theorem zhv:∀ {l:yA},zzs l->∀ x∈l,zgo x/\x.length<=zbo
 | [],_,x,hx=>by cases hx
 | y::r,h,x,hx=>by
  unfold zzs at h;rcases qd.1 hx with rfl | hx
  ·exact h.1
  ·exact zhv h.2 x hx
theorem zfX:∀ {l:yE},ztP l->∀ x∈l,zWx x.Value/\zgo x.Ann/\x.Ann.length<=zbo
 | [],_,x,hx=>by cases hx
 | y::r,h,x,hx=>by
  unfold ztP at h;rcases qd.1 hx with rfl | hx
  ·have:=h.1; unfold zLa at this; exact ⟨this.1,this.2.1,this.2.2⟩
  ·exact zfX h.2 x hx
theorem zux {t:Term} (h:zDZ t):wf2 t.Cf/\zuF t.Fs/\t.Fs.length<=zbo:=by
 unfold zDZ at h; exact ⟨h.1,h.2.1,h.2.2⟩
theorem znM {t:Fc} (h:zy5 t):zf9 t.At/\wf3 t.Exp:=by
 unfold zy5 at h; exact h
theorem znt {x:At} (h:zf9 x):(zzs x.Ag/\x.Ag.length<=zbo)/\(ztP x.Items/\x.Items.length<=zbo)/\zWx x.Bd/\wf3 x.Kind/\zZ4 x.Row/\wf3 x.Func/\wf3 x.Op:=by
 obtain ⟨k,r,a,f,i,o,b⟩:=x; unfold zf9 at h; exact ⟨h.2.2.1,h.2.2.2.2.1,h.2.2.2.2.2.2,h.1,h.2.1,h.2.2.2.1,h.2.2.2.2.2.1⟩
theorem zjO {z:Int} (h0: -4611686018427387904<=z) (h:z<4611686018427387904):IntKind.i64.wrap z=z:=z2T (by omega) (by omega)
mutual
def zJk:At->Nat
 | ⟨_,_,a,_,i,_,b⟩=>i.length+a.length+b.Text.size+zq8 a+zlV i
def zhr:yD->Nat
 | []=>0
 | ⟨x,_⟩::r=>zJk x+zhr r
def zez:yC->Nat
 | []=>0
 | ⟨_,fs⟩::r=>1+fs.length+zhr fs+zez r
def zq8:yA->Nat
 | []=>0
 | a::r=>zez a+zq8 r
def zlV:yE->Nat
 | []=>0
 | ⟨v,a⟩::r=>v.Text.size+zez a+zlV r
end
theorem z8s (x:At):zJk x=x.Items.length+x.Ag.length+x.Bd.Text.size+zq8 x.Ag+zlV x.Items:=by cases x; rw [zJk]
theorem zRF (f:Fc) (r:yD):zhr (f::r)=zJk f.At+zhr r:=by cases f; rw [zhr]
theorem zTA (t:Term) (r:yC):zez (t::r)=1+t.Fs.length+zhr t.Fs+zez r:=by cases t; rw [zez]
theorem z0D (a:yC) (r:yA):zq8 (a::r)=zez a+zq8 r:=by rw [zq8]
theorem zMs (w:Wd) (r:yE):zlV (w::r)=w.Value.Text.size+zez w.Ann+zlV r:=by cases w; rw [zlV]
theorem zbfK:zq8 []=0:=by rw [zq8]
theorem zbeQ:zlV []=0:=by rw [zlV]
theorem z92:zhr []=0:=by rw [zhr]
theorem zbia:zez []=0:=by rw [zez]
section
variable (g:yC->Int->Int->Bool×Int) (a:yC) (limit d:Nat) (hl:limit<=1000) (hd:d<=100) (B:Nat) (hB:B<=1152921504606846976) (P:yC->Prop)
include hl hd hB
theorem w14 (x:At) (i k:Int) (hlen:x.Ag.length<=zbo) (hg:∀ y∈x.Ag,∀ l:Nat,l<=1000->∃ w:Nat,g y l d=(true,(w:Int))/\w<=B/\(w<=l->P y/\zez y<=w)):
  ∀ (fuel j n:Nat),x.Ag.length<j+fuel->j<=x.Ag.length->n<=2305843009213693952->∃ n':Nat,zBK g fuel a limit (d+1:Nat) n i k j x=(true,(a,(limit:Int),((d+1:Nat):Int),(n':Int),i,k,x))/\n<=n'/\n'<=max n (limit+B)/\(n'<=limit->(∀ y∈x.Ag.drop j,P y)/\n+zq8 (x.Ag.drop j)<=n')
 | 0,j,n,h1,h2,h3=>by omega
 | fuel+1,j,n,h1,h2,h3=>by
  show ∃ n':Nat,(zBx g a limit (d+1:Nat) n i k j x).ev (λx y=>zBK g fuel x.1 x.2.1 x.2.2.1 x.2.2.2.1 x.2.2.2.2.1 x.2.2.2.2.2.1 x.2.2.2.2.2.2.2.1 y.1) (λr=>(true,r)) (false,default)=_/\_
  unfold zBx;have hml:zbo=140737488351232:=rfl;by_cases hj:j<x.Ag.length
  ·by_cases hn:n<=limit
   ·have e1:IntKind.i64.wrap ((limit:Int) - (n:Int))=((limit - n:Nat):Int):=by rw [zjO (by omega) (by omega)]; omega
    obtain ⟨w,hw,hwB,hwP⟩:=hg _ (zr hj) (limit - n) (by omega)
    have ed:IntKind.i64.wrap (((d+1:Nat):Int) - 1)=(d:Int):=by rw [zjO (by omega) (by omega)]; omega
    simp only [Wy.ev_i,Wy.ev_k,Wy.ev_h,Wy.ev_bn,Wy.ev_d,tT,hj,zDT,hn,e1,ed,hw];have e3:IntKind.i64.wrap ((n:Int)+(w:Int))=((n+w:Nat):Int):=by rw [zjO (by omega) (by omega)]; omega
    rw [e3,zN (by omega)]
    obtain ⟨n',h4,h5,h6,h7⟩:=w14 x i k hlen hg fuel (j+1) (n+w) (by omega) (by omega) (by omega)
    refine ⟨n',h4,by omega,by omega,λhn'=> ?_⟩
    obtain ⟨h8,h9⟩:=h7 hn';obtain ⟨p1,p2⟩:=hwP (by omega)
    rw [zbx hj,z0D];refine ⟨λy hy=> ?_,by omega⟩
    rcases qd.1 hy with rfl | hy
    ·exact p1
    ·exact h8 y hy
   ·simp only [Wy.ev_i,Wy.ev_k,Wy.ev_h,Wy.ev_bn,Wy.ev_d,tT,hj,zDT,hn];exact ⟨n,rfl,Nat.le_refl _,by omega,λh=>absurd h hn⟩
  ·simp only [Wy.ev_i,Wy.ev_k,Wy.ev_h,Wy.ev_bn,Wy.ev_d,tT,hj];exact ⟨n,rfl,Nat.le_refl _,by omega,λ_=>by rw [zcO hj,zbfK]; exact ⟨λy hy=>(by cases hy),Nat.le_refl _⟩⟩
theorem w18 (x:At) (i k:Int) (hlen:x.Items.length<=zbo) (hg:∀ y∈x.Items,y.Value.Text.size<=zbo/\∀ l:Nat,l<=1000->∃ w:Nat,g y.Ann l d=(true,(w:Int))/\w<=B/\(w<=l->P y.Ann/\zez y.Ann<=w)):
  ∀ (fuel j n:Nat),x.Items.length<j+fuel->j<=x.Items.length->n<=2305843009213693952->∃ n':Nat,zB8 g fuel a limit (d+1:Nat) n i k j x=(true,(a,(limit:Int),((d+1:Nat):Int),(n':Int),i,k))/\n<=n'/\n'<=max n (limit+zbo+B)/\(n'<=limit->(∀ y∈x.Items.drop j,y.Value.Text.size<=1000/\P y.Ann)/\n+zlV (x.Items.drop j)<=n')
 | 0,j,n,h1,h2,h3=>by omega
 | fuel+1,j,n,h1,h2,h3=>by
  show ∃ n':Nat,(zBi g a limit (d+1:Nat) n i k j x).ev (λx y=>zB8 g fuel x.1 x.2.1 x.2.2.1 x.2.2.2.1 x.2.2.2.2.1 x.2.2.2.2.2.1 x.2.2.2.2.2.2.2.1 y.1) (λr=>(true,r)) (false,default)=_/\_
  unfold zBi;have hml:zbo=140737488351232:=rfl;by_cases hj:j<x.Items.length
  ·by_cases hn:n<=limit
   ·have e1:IntKind.i64.wrap ((limit:Int) - (n:Int))=((limit - n:Nat):Int):=by rw [zjO (by omega) (by omega)]; omega
    obtain ⟨ht,hgy⟩:=hg _ (zr hj);obtain ⟨w,hw,hwB,hwP⟩:=hgy (limit - n) (by omega)
    have ed:IntKind.i64.wrap (((d+1:Nat):Int) - 1)=(d:Int):=by rw [zjO (by omega) (by omega)]; omega
    simp only [Wy.ev_i,Wy.ev_k,Wy.ev_h,Wy.ev_bn,Wy.ev_d,tT,hj,zDT,hn,e1,ed,hw];generalize hsz:(x.Items.getD j default).Value.Text.size=sz at *;have e3:IntKind.i64.wrap (IntKind.i64.wrap ((n:Int)+(sz:Int))+(w:Int))=((n+sz+w:Nat):Int):=by rw [zjO (z:=(n:Int)+(sz:Int)) (by omega) (by omega),zjO (by omega) (by omega)]; omega
    rw [e3,zN (by omega)]
    obtain ⟨n',h4,h5,h6,h7⟩:=w18 x i k hlen hg fuel (j+1) (n+sz+w) (by omega) (by omega) (by omega)
    refine ⟨n',h4,by omega,by omega,λhn'=> ?_⟩
    obtain ⟨h8,h9⟩:=h7 hn';obtain ⟨p1,p2⟩:=hwP (by omega)
    rw [zbx hj,zMs];refine ⟨λy hy=> ?_,by omega⟩
    rcases qd.1 hy with rfl | hy
    ·exact ⟨by omega,p1⟩
    ·exact h8 y hy
   ·simp only [Wy.ev_i,Wy.ev_k,Wy.ev_h,Wy.ev_bn,Wy.ev_d,tT,hj,zDT,hn];exact ⟨n,rfl,Nat.le_refl _,by omega,λh=>absurd h hn⟩
  ·simp only [Wy.ev_i,Wy.ev_k,Wy.ev_h,Wy.ev_bn,Wy.ev_d,tT,hj];exact ⟨n,rfl,Nat.le_refl _,by omega,λ_=>by rw [zcO hj,zbeQ]; exact ⟨λy hy=>(by cases hy),Nat.le_refl _⟩⟩
theorem w9 (i:Nat) (hi:i<a.length) (hla:(a.getD i default).Fs.length<=zbo) (hg:∀ f∈(a.getD i default).Fs,f.At.Ag.length<=zbo/\f.At.Items.length<=zbo/\f.At.Bd.Text.size<=zbo/\(∀ y∈f.At.Ag,∀ l:Nat,l<=1000->∃ w:Nat,g y l d=(true,(w:Int))/\w<=B/\(w<=l->P y/\zez y<=w))/\
   ∀ y∈f.At.Items,y.Value.Text.size<=zbo/\∀ l:Nat,l<=1000->∃ w:Nat,g y.Ann l d=(true,(w:Int))/\w<=B/\(w<=l->P y.Ann/\zez y.Ann<=w)):
  ∀ (fuel k n:Nat),(a.getD i default).Fs.length<k+fuel->k<=(a.getD i default).Fs.length->n<=2305843009213693952->∃ n':Nat,zDb g fuel a limit (d+1:Nat) n i k=(true,(a,(limit:Int),((d+1:Nat):Int),(n':Int),(i:Int)))/\n<=n'/\n'<=max n (limit+4*zbo+B)/\
   (n'<=limit->(∀ f∈(a.getD i default).Fs.drop k,(f.At.Ag.length<=1000/\f.At.Items.length<=1000/\f.At.Bd.Text.size<=1000)/\(∀ y∈f.At.Ag,P y)/\∀ y∈f.At.Items,y.Value.Text.size<=1000/\P y.Ann)/\n+zhr ((a.getD i default).Fs.drop k)<=n')
 | 0,k,n,h1,h2,h3=>by omega
 | fuel+1,k,n,h1,h2,h3=>by
  show ∃ n':Nat,(zDB g a limit (d+1:Nat) n i k).ev (λx y=>zDb g fuel x.1 x.2.1 x.2.2.1 x.2.2.2.1 x.2.2.2.2.1 x.2.2.2.2.2.1) (λr=>(true,r)) (false,default)=_/\_
  unfold zDB;have hml:zbo=140737488351232:=rfl;by_cases hk:k<(a.getD i default).Fs.length
  ·by_cases hn:n<=limit
   ·simp only [Wy.ev_i,Wy.ev_k,Wy.ev_h,Wy.ev_bn,Wy.ev_d,tT,hi,hk,zDT,hn,At.eta];obtain ⟨ha1,ha2,ha3,hgA,hgI⟩:=hg _ (zr hk);generalize hf:((a.getD i default).Fs.getD k default)=f at *
    have e0:IntKind.i64.wrap (IntKind.i64.wrap (IntKind.i64.wrap ((n:Int)+(f.At.Items.length:Int))+(f.At.Ag.length:Int))+(f.At.Bd.Text.size:Int))=((n+f.At.Items.length+f.At.Ag.length+f.At.Bd.Text.size:Nat):Int):=by
     rw [zjO (z:=(n:Int)+(f.At.Items.length:Int)) (by omega) (by omega),zjO (z:=(n:Int)+(f.At.Items.length:Int)+(f.At.Ag.length:Int)) (by omega) (by omega),zjO (by omega) (by omega)]; omega
    rw [e0];obtain ⟨n1,q1,q2,q3,q4⟩:=w14 g a limit d hl hd B hB P f.At i k ha1 hgA (a.length+limit+(d+1)+((n+f.At.Items.length+f.At.Ag.length+f.At.Bd.Text.size:Nat):Int).toNat +i+k+Int.toNat 0+f.At.Ag.length+f.At.Items.length+1) 0 (n+f.At.Items.length+f.At.Ag.length+f.At.Bd.Text.size) (by omega) (by omega) (by omega)
    rw [show ((0:Nat):Int)=(0:Int) from rfl] at q1
    rw [q1];simp only [cond_true,At.eta,Int.toNat_natCast];obtain ⟨n2,r1,r2,r3,r4⟩:=w18 g a limit d hl hd B hB P f.At i k ha2 hgI (a.length+limit+(d+1)+n1+i+k+Int.toNat 0+f.At.Ag.length+f.At.Items.length+1) 0 n1 (by omega) (by omega) (by omega)
    rw [show ((0:Nat):Int)=(0:Int) from rfl] at r1
    rw [r1];simp only [cond_true];rw [zN (by omega)]
    obtain ⟨n',h4,h5,h6,h7⟩:=w9 i hi hla hg fuel (k+1) n2 (by omega) (by omega) (by omega)
    refine ⟨n',h4,by omega,by omega,λhn'=> ?_⟩
    obtain ⟨h8,h9⟩:=h7 hn';obtain ⟨q5,q6⟩:=q4 (by omega)
    obtain ⟨r5,r6⟩:=r4 (by omega)
    rw [List.drop_zero] at q5 q6 r5 r6;rw [zbx hk,zRF,hf,z8s];refine ⟨λy hy=> ?_,by omega⟩
    rcases qd.1 hy with rfl | hy
    ·exact ⟨⟨by omega,by omega,by omega⟩,q5,r5⟩
    ·exact h8 y hy
   ·simp only [Wy.ev_i,Wy.ev_k,Wy.ev_h,Wy.ev_bn,Wy.ev_d,tT,hi,hk,zDT,hn];exact ⟨n,rfl,Nat.le_refl _,by omega,λh=>absurd h hn⟩
  ·simp only [Wy.ev_i,Wy.ev_k,Wy.ev_h,Wy.ev_bn,Wy.ev_d,tT,hi,hk];exact ⟨n,rfl,Nat.le_refl _,by omega,λ_=>by rw [zcO hk,z92]; exact ⟨λy hy=>(by cases hy),Nat.le_refl _⟩⟩
theorem w5 (hla:∀ t∈a,t.Fs.length<=zbo) (hg:∀ t∈a,∀ f∈t.Fs,f.At.Ag.length<=zbo/\f.At.Items.length<=zbo/\f.At.Bd.Text.size<=zbo/\(∀ y∈f.At.Ag,∀ l:Nat,l<=1000->∃ w:Nat,g y l d=(true,(w:Int))/\w<=B/\(w<=l->P y/\zez y<=w))/\
   ∀ y∈f.At.Items,y.Value.Text.size<=zbo/\∀ l:Nat,l<=1000->∃ w:Nat,g y.Ann l d=(true,(w:Int))/\w<=B/\(w<=l->P y.Ann/\zez y.Ann<=w)) (hlen:a.length<=zbo):
  ∀ (fuel i n:Nat),a.length<i+fuel->i<=a.length->n<=2305843009213693952->∃ n':Nat,zDl g fuel a limit (d+1:Nat) n i=(true,(n':Int))/\n<=n'/\n'<=max n (limit+6*zbo+B)/\
   (n'<=limit->(n+(a.length - i)<=n'/\n+zez (a.drop i)<=n')/\∀ t∈a.drop i,t.Fs.length<=1000/\∀ f∈t.Fs,(f.At.Ag.length<=1000/\f.At.Items.length<=1000/\f.At.Bd.Text.size<=1000)/\(∀ y∈f.At.Ag,P y)/\∀ y∈f.At.Items,y.Value.Text.size<=1000/\P y.Ann)
 | 0,i,n,h1,h2,h3=>by omega
 | fuel+1,i,n,h1,h2,h3=>by
  show ∃ n':Nat,(zDD g a limit (d+1:Nat) n i).ev (λx y=>zDl g fuel x.1 x.2.1 x.2.2.1 x.2.2.2.1 x.2.2.2.2.1) (λr=>(true,r)) (false,default)=_/\_
  unfold zDD;have hml:zbo=140737488351232:=rfl;by_cases hi:i<a.length
  ·by_cases hn:n<=limit
   ·simp only [Wy.ev_i,Wy.ev_k,Wy.ev_h,Wy.ev_bn,Wy.ev_d,tT,hi,zDT,hn];have hla':=hla _ (zr hi)
    have e0:IntKind.i64.wrap (IntKind.i64.wrap ((n:Int)+1)+((a.getD i default).Fs.length:Int))=((n+1+(a.getD i default).Fs.length:Nat):Int):=by
     rw [zN (by omega),zjO (by omega) (by omega)]; omega
    rw [e0];obtain ⟨n1,q1,q2,q3,q4⟩:=w9 g a limit d hl hd B hB P i hi hla' (hg _ (zr hi)) (a.length+limit+(d+1)+((n+1+(a.getD i default).Fs.length:Nat):Int).toNat +i+Int.toNat 0+1) 0 (n+1+(a.getD i default).Fs.length) (by omega) (by omega) (by omega)
    rw [show ((0:Nat):Int)=(0:Int) from rfl] at q1
    rw [q1];simp only [cond_true];rw [zN (by omega)]
    obtain ⟨n',h4,h5,h6,h7⟩:=w5 hla hg hlen fuel (i+1) n1 (by omega) (by omega) (by omega)
    refine ⟨n',h4,by omega,by omega,λhn'=> ?_⟩
    obtain ⟨⟨h8,h10⟩,h9⟩:=h7 hn';obtain ⟨q5,q6⟩:=q4 (by omega)
    rw [List.drop_zero] at q5 q6;rw [zbx hi,zTA];refine ⟨⟨by omega,by omega⟩,λy hy=> ?_⟩
    rcases qd.1 hy with rfl | hy
    ·exact ⟨by omega,q5⟩
    ·exact h9 y hy
   ·simp only [Wy.ev_i,Wy.ev_k,Wy.ev_h,Wy.ev_bn,Wy.ev_d,tT,hi,zDT,hn];exact ⟨n,rfl,Nat.le_refl _,by omega,λh=>absurd h hn⟩
  ·simp only [Wy.ev_i,Wy.ev_k,Wy.ev_h,Wy.ev_bn,Wy.ev_d,tT,hi];exact ⟨n,rfl,Nat.le_refl _,by omega,λ_=>by rw [zcO hi,zbia]; exact ⟨⟨by omega,Nat.le_refl _⟩,λy hy=>(by cases hy)⟩⟩
end
theorem zbb5:∀ (d N:Nat),d<N->d<=12->∀ (l:Nat),l<=1000->∀ a,zgo a->a.length<=zbo->∃ w:Nat,zqG N a l d=(true,(w:Int))/\w<=(d+1)*4503599627370496/\(w<=l->zm d a/\zez a<=w)
 | _,0,h,_,_,_,_,_,_=>by omega
 | 0,N+1,_,_,l,hl,a,hw,hlen=>by
  rw [zMX];unfold zw1 zEV;refine ⟨l+1, ?_,by omega,λh=>by omega⟩
  simp only [Wy.fin_i,Wy.fin_k];rw [zN (by omega)]; rfl
 | d+1,N+1,hN,hd,l,hl,a,hw,hlen=>by
  rw [zMX];unfold zw1 zEV;have hml:zbo=140737488351232:=rfl;have ih:=λy (h1:zgo y) (h2:y.length<=zbo) l hl=>zbb5 d N (by omega) (by omega) l hl y h1 h2
  have e0:(((d+1:Nat):Int)==(0:Int))=false:=by
   rw [beq_eq_false_iff_ne]; omega
  obtain ⟨n',h1,h2,h3,h4⟩:=w5 (zqG N) a l d hl (by omega) ((d+1)*4503599627370496) (by omega) (zm d) (λt ht=>(zux (zqr hw t ht)).2.2) (λt ht f hf=>by
   have hx:=znt (znM (zl7 (zux (zqr hw t ht)).2.1 f hf)).1;refine ⟨hx.1.2,hx.2.1.2,hx.2.2.1.2.2,λy hy l hl=> ?_,λy hy=> ?_⟩
   ·have:=zhv hx.1.1 y hy;exact ih y this.1 this.2 l hl
   ·have:=zfX hx.2.1.1 y hy;exact ⟨this.1.2.2,λl hl=>ih y.Ann this.2.1 this.2.2 l hl⟩) hlen (a.length+l+(d+1)+Int.toNat 0+Int.toNat 0+1) 0 0 (by omega) (by omega) (by omega)
  rw [show ((0:Nat):Int)=(0:Int) from rfl] at h1
  refine ⟨n', ?_,by omega,λhn=> ?_⟩
  ·simp only [Wy.fin_i,Wy.fin_k,Wy.fin_bn,e0,cond_false,Int.toNat_natCast,h1,cond_true]
  ·obtain ⟨⟨h5,h12⟩,h6⟩:=h4 hn;rw [List.drop_zero] at h12;refine ⟨⟨by omega,λt ht=> ?_⟩,by omega⟩
   obtain ⟨h7,h8⟩:=h6 t (by simpa using ht)
   refine ⟨by omega,λf hf=> ?_⟩
   obtain ⟨h9,h10,h11⟩:=h8 f hf;exact ⟨⟨by omega,by omega,by omega⟩,h10,λw hw=>⟨by have:=(h11 w hw).1; omega,(h11 w hw).2⟩⟩
theorem zbdT (limit:Nat) (hl:limit<=1000) (l:yA) (hll:l.length<=1000) (hw:∀ a∈l,zgo a/\a.length<=zbo):∀ (n i:Nat),l.length<i+n->i<=l.length->∃ r,zPw n limit l i=(true,r)/\((r=.inl false)\/(r=.inr ()/\∀ a∈l.drop i,zm 12 a/\zez a<=limit))
 | 0,i,h1,h2=>by omega
 | n+1,i,h1,h2=>by
  show ∃ r,(zQo limit l i).ev (λx y=>zPw n x.1 x.2.1 x.2.2.1) (λr=>(true,r)) (false,.inl default)=(true,r)/\_
  unfold zQo;by_cases hi:i<l.length
  ·obtain ⟨w,q1,q2,q3⟩:=zbb5 12 1000 (by omega) (by omega) limit hl _ (hw _ (zr hi)).1 (hw _ (zr hi)).2
   have q1':zOz (l.getD i default) (limit:Int) 12=(true,(w:Int)):=q1;simp only [Wy.ev_i,Wy.ev_k,Wy.ev_h,Wy.ev_bn,Wy.ev_d,tT,hi,q1',zrH];by_cases hg:limit<w
   ·simp only [hg,decide_true,cond_true];exact ⟨_,rfl,.inl rfl⟩
   ·simp only [hg,decide_false,cond_false];rw [zN (by omega)]
    obtain ⟨r,h3,h4⟩:=zbdT limit hl l hll hw n (i+1) (by omega) (by omega)
    refine ⟨r,h3, ?_⟩;rcases h4 with h4 | ⟨h4,h5⟩
    ·exact .inl h4
    ·refine .inr ⟨h4,λa ha=> ?_⟩
     rw [zbx hi] at ha;rcases qd.1 ha with rfl | ha
     ·exact ⟨(q3 (by omega)).1,by have:=(q3 (by omega)).2; omega⟩
     ·exact h5 a ha
  ·simp only [Wy.ev_i,Wy.ev_k,Wy.ev_h,Wy.ev_bn,Wy.ev_d,tT,hi];exact ⟨_,rfl,.inr ⟨rfl,λa ha=>by rw [zcO hi] at ha; cases ha⟩⟩
theorem zbnM (limit:Nat) (hl:limit<=1000) (l:yA) (hll:l.length<=1000) (hw:∀ a∈l,zgo a/\a.length<=zbo):∃ b,zBI limit l=(true,b)/\(b=true->∀ a∈l,zm 12 a/\zez a<=limit):=by
 unfold zBI z5n;obtain ⟨r,h1,h2⟩:=zbdT limit hl l hll hw (limit+l.length+Int.toNat 0+1) 0 (by omega) (by omega)
 rw [show ((0:Nat):Int)=(0:Int) from rfl] at h1
 rw [Wy.fin_bn];simp only [Int.toNat_natCast,h1,cond_true];rcases h2 with rfl | ⟨rfl,h2⟩
 ·exact ⟨false,rfl,λh=>by cases h⟩
 ·exact ⟨true,rfl,λ_ a ha=>h2 a (by simpa using ha)⟩
mutual
def zfm:At->Nat
 | ⟨_,_,a,_,i,_,_⟩=>zfo a+zdo i
def zby:yD->Nat
 | []=>0
 | ⟨x,_⟩::r=>zfm x+zby r
def zK:yC->Nat
 | []=>0
 | ⟨_,fs⟩::r=>1+fs.length+zby fs+zK r
def zfo:yA->Nat
 | []=>0
 | a::r=>zK a+zfo r
def zdo:yE->Nat
 | []=>0
 | ⟨_,a⟩::r=>1+zK a+zdo r
end
theorem zhu (x:At):zfm x=zfo x.Ag+zdo x.Items:=by cases x; rw [zfm]
theorem zcC (f:Fc) (r:yD):zby (f::r)=zfm f.At+zby r:=by cases f; rw [zby]
theorem zcp (t:Term) (r:yC):zK (t::r)=1+t.Fs.length+zby t.Fs+zK r:=by cases t; rw [zK]
theorem zfa (a:yC) (r:yA):zfo (a::r)=zK a+zfo r:=by rw [zfo]
theorem zin (w:Wd) (r:yE):zdo (w::r)=1+zK w.Ann+zdo r:=by cases w; rw [zdo]
theorem zgO:zfo []=0:=by rw [zfo]
theorem zfQ:zdo []=0:=by rw [zdo]
theorem ziK:zby []=0:=by rw [zby]
theorem zqd:zK []=0:=by rw [zK]
theorem z8B (l:yA):∀ n:Nat,l.foldl (λs t=>s+zK t) n=n+zfo l:=by
 induction l with
 | nil=>intro n; rw [zgO]; rfl
 | cons a r ih=>intro n; rw [List.foldl_cons,ih,zfa]; omega
theorem z5z (l:yE):∀ n:Nat,l.foldl (λs t=>s+1+zK t.Ann) n=n+zdo l:=by
 induction l with
 | nil=>intro n; rw [zfQ]; rfl
 | cons a r ih=>intro n; rw [List.foldl_cons,ih,zin]; omega
theorem zbcS (l:yD):∀ n:Nat,l.foldl (λs t=>s+zfm t.At) n=n+zby l:=by
 induction l with
 | nil=>intro n; rw [ziK]; rfl
 | cons a r ih=>intro n; rw [List.foldl_cons,ih,zcC]; omega
theorem zbbS (l:yC):∀ n:Nat,l.foldl (λs t=>s+1+t.Fs.length+zby t.Fs) n=n+zK l:=by
 induction l with
 | nil=>intro n; rw [zqd]; rfl
 | cons a r ih=>intro n; rw [List.foldl_cons,ih,zcp]; omega
theorem zoP {n m:Nat} (h:n+m<=4611686018427387904):IntKind.i64.wrap ((n:Int)+(m:Int))=((n+m:Nat):Int):=by
 rw [z2T (by omega) (by omega)]; omega
theorem zgU {i:Nat} (h:i<4611686018427387904):IntKind.i64.wrap ((i:Int)+1)=((i+1:Nat):Int):=zN h
section
variable (g:yC->Bool×Int)
theorem zblT (l:yA) (hl:l.length<=1000000) (hg:∀ y∈l,g y=(true,(zK y:Int))) (t12:yC) (t13 t14:Int) (t25:yD) (t26 t27:Int) (f:Fc) (fuel n:Nat) (hf:l.length<fuel) (hn:n+zfo l<=4611686018427387904):
  zFv g fuel n t12 t13 t14 t25 t26 t27 l l.length 0 f=(true,(((n+zfo l:Nat):Int),t12,t13,t14,t25,t26,t27,f)):=by
 have h:=zc8 (W:=zxj g) (z:=default) (l:=l) (λi (n:Nat)=>((n:Int),(),t12,t13,t14,t25,t26,t27,l,(l.length:Int),(i:Int),())) (λ_ _=>(f,())) (λy n=>.inl (n+zK y)) (λn=>((n:Int),t12,t13,t14,t25,t26,t27,f)) (λi n=>n+zfo (l.drop i)<=4611686018427387904)
  (λi n hi hI=>.inl ⟨_,rfl,by rw [zbx hi,zfa] at hI; omega,λH K D=>by
   rw [zbx hi,zfa] at hI;show (zkD g n t12 t13 t14 t25 t26 t27 l l.length i f).ev H K D=_;unfold zkD;simp only [Wy.ev_i,Wy.ev_k,Wy.ev_h,Wy.ev_bn,Wy.ev_d,tT,hi,hg _ (zr hi)];rw [zoP (by omega),zgU (by omega)]⟩)
  (λn hI H K D=>by
   show (zkD g n t12 t13 t14 t25 t26 t27 l l.length l.length f).ev H K D=_;unfold zkD;simp only [Wy.ev_i,Wy.ev_k,tT,Nat.lt_irrefl]) fuel 0 n (by omega) (Nat.zero_le _) (by simpa using hn)
 rw [List.drop_zero,zc9,z8B] at h;exact h
theorem zbme (l:yE) (hl:l.length<=1000000) (hg:∀ y∈l,g y.Ann=(true,(zK y.Ann:Int))) (t12:yC) (t13 t14:Int) (t25:yD) (t26 t27:Int) (fuel n:Nat) (hf:l.length<fuel) (hn:n+zdo l<=4611686018427387904):
  zFG g fuel n t12 t13 t14 t25 t26 t27 l l.length 0=(true,(((n+zdo l:Nat):Int),t12,t13,t14,t25,t26,t27)):=by
 have h:=zc8 (W:=zw6 g) (z:=default) (l:=l) (λi (n:Nat)=>((n:Int),t12,t13,t14,t25,t26,t27,l,(l.length:Int),(i:Int),())) (λ_ _=>()) (λy n=>.inl (n+1+zK y.Ann)) (λn=>((n:Int),t12,t13,t14,t25,t26,t27)) (λi n=>n+zdo (l.drop i)<=4611686018427387904)
  (λi n hi hI=>.inl ⟨_,rfl,by rw [zbx hi,zin] at hI; omega,λH K D=>by
   rw [zbx hi,zin] at hI;show (zkR g n t12 t13 t14 t25 t26 t27 l l.length i).ev H K D=_;unfold zkR;simp only [Wy.ev_i,Wy.ev_k,Wy.ev_h,Wy.ev_bn,Wy.ev_d,tT,hi,hg _ (zr hi)];rw [zgU (by omega),show (1:Int)=((1:Nat):Int) from rfl,zoP (by omega),zoP (by omega), <- Nat.add_assoc]⟩)
  (λn hI H K D=>by
   show (zkR g n t12 t13 t14 t25 t26 t27 l l.length l.length).ev H K D=_;unfold zkR;simp only [Wy.ev_i,Wy.ev_k,tT,Nat.lt_irrefl]) fuel 0 n (by omega) (Nat.zero_le _) (by simpa using hn)
 rw [List.drop_zero,zc9,z5z] at h;exact h
theorem zbnR (l:yD) (hl:l.length<=1000000) (hg:∀ f∈l,(f.At.Ag.length<=1000000/\f.At.Items.length<=1000000)/\(∀ y∈f.At.Ag,g y=(true,(zK y:Int)))/\∀ y∈f.At.Items,g y.Ann=(true,(zK y.Ann:Int))) (t12:yC) (t13 t14:Int) (fuel n:Nat) (hf:l.length<fuel) (hn:n+zby l<=4611686018427387904):
  zHv g fuel n t12 t13 t14 l l.length 0=(true,(((n+zby l:Nat):Int),t12,t13,t14)):=by
 have h:=zc8 (W:=zyV g) (z:=default) (l:=l) (λi (n:Nat)=>((n:Int),t12,t13,t14,l,(l.length:Int),(i:Int),())) (λ_ _=>()) (λy n=>.inl (n+zfm y.At)) (λn=>((n:Int),t12,t13,t14)) (λi n=>n+zby (l.drop i)<=4611686018427387904)
  (λi n hi hI=>.inl ⟨_,rfl,by rw [zbx hi,zcC] at hI; omega,λH K D=>by
   rw [zbx hi,zcC,zhu] at hI;obtain ⟨⟨h1,h2⟩,h3,h4⟩:=hg _ (zr hi);show (zlu g n t12 t13 t14 l l.length i).ev H K D=_;unfold zlu;simp only [Wy.ev_i,Wy.ev_k,Wy.ev_h,Wy.ev_bn,Wy.ev_d,tT,hi,At.eta];rw [zblT g _ h1 h3 _ _ _ _ _ _ _ _ _ (by omega) (by omega)]
   simp only [cond_true,Int.toNat_natCast];rw [zbme g _ h2 h4 _ _ _ _ _ _ _ _ (by omega) (by omega)]
   simp only [cond_true];rw [zgU (by omega),zhu,Nat.add_assoc]⟩)
  (λn hI H K D=>by
   show (zlu g n t12 t13 t14 l l.length l.length).ev H K D=_;unfold zlu;simp only [Wy.ev_i,Wy.ev_k,tT,Nat.lt_irrefl]) fuel 0 n (by omega) (Nat.zero_le _) (by simpa using hn)
 rw [List.drop_zero,zc9,zbcS] at h;exact h
theorem zbnb (l:yC) (hl:l.length<=1000000) (hg:∀ t∈l,t.Fs.length<=1000000/\∀ f∈t.Fs,(f.At.Ag.length<=1000000/\f.At.Items.length<=1000000)/\(∀ y∈f.At.Ag,g y=(true,(zK y:Int)))/\∀ y∈f.At.Items,g y.Ann=(true,(zK y.Ann:Int))) (fuel n:Nat) (hf:l.length<fuel) (hn:n+zK l<=4611686018427387904):
  zHl g fuel n l l.length 0=(true,((n+zK l:Nat):Int)):=by
 have h:=zc8 (W:=zyS g) (z:=default) (l:=l) (λi (n:Nat)=>((n:Int),l,(l.length:Int),(i:Int),())) (λ_ _=>()) (λy n=>.inl (n+1+y.Fs.length+zby y.Fs)) (λn=>(n:Int)) (λi n=>n+zK (l.drop i)<=4611686018427387904)
  (λi n hi hI=>.inl ⟨_,rfl,by rw [zbx hi,zcp] at hI; omega,λH K D=>by
   rw [zbx hi,zcp] at hI;obtain ⟨h1,h3⟩:=hg _ (zr hi);show (zly g n l l.length i).ev H K D=_;unfold zly;simp only [Wy.ev_i,Wy.ev_k,Wy.ev_h,Wy.ev_bn,Wy.ev_d,tT,hi,At.eta];rw [show (1:Int)=((1:Nat):Int) from rfl,zoP (n:=1) (by omega),zoP (by omega)]
   rw [zbnR g _ h1 h3 _ _ _ _ _ (by omega) (by omega)]
   simp only [cond_true];rw [show ((1:Nat):Int)=(1:Int) from rfl,zgU (by omega),Nat.add_assoc n 1]⟩)
  (λn hI H K D=>by
   show (zly g n l l.length l.length).ev H K D=_;unfold zly;simp only [Wy.ev_i,Wy.ev_k,tT,Nat.lt_irrefl]) fuel 0 n (by omega) (Nat.zero_le _) (by simpa using hn)
 rw [List.drop_zero,zc9,zbbS] at h;exact h
theorem zbkq (x:At) (hl:x.Ag.length<=1000000) (hg:∀ y∈x.Ag,g y=(true,(zK y:Int))) (a:yC) (i k:Int) (fuel n:Nat) (hf:x.Ag.length<fuel) (hn:n+zfo x.Ag<=4611686018427387904):
  zOM g fuel a n i k 0 x=(true,(a,((n+zfo x.Ag:Nat):Int),i,k,x)):=by
 have h:=zc8 (W:=zEv g) (z:=default) (l:=x.Ag) (λj (n:Nat)=>(a,(n:Int),i,k,(),(j:Int),())) (λ_ _=>(x,())) (λy n=>.inl (n+zK y)) (λn=>(a,(n:Int),i,k,x)) (λi n=>n+zfo (x.Ag.drop i)<=4611686018427387904)
  (λj n hi hI=>.inl ⟨_,rfl,by rw [zbx hi,zfa] at hI; omega,λH K D=>by
   rw [zbx hi,zfa] at hI;show (zrz g a n i k j x).ev H K D=_;unfold zrz;simp only [Wy.ev_i,Wy.ev_k,Wy.ev_h,Wy.ev_bn,Wy.ev_d,tT,hi,hg _ (zr hi)];rw [zoP (by omega),zgU (by omega)]⟩)
  (λn hI H K D=>by
   show (zrz g a n i k x.Ag.length x).ev H K D=_;unfold zrz;simp only [Wy.ev_i,Wy.ev_k,tT,Nat.lt_irrefl]) fuel 0 n (by omega) (Nat.zero_le _) (by simpa using hn)
 rw [List.drop_zero,zc9,z8B] at h;exact h
theorem zbkU (x:At) (hl:x.Items.length<=1000000) (hg:∀ y∈x.Items,g y.Ann=(true,(zK y.Ann:Int))) (a:yC) (i k:Int) (fuel n:Nat) (hf:x.Items.length<fuel) (hn:n+zdo x.Items<=4611686018427387904):
  zOP g fuel a n i k 0 x=(true,(a,((n+zdo x.Items:Nat):Int),i,k)):=by
 have h:=zc8 (W:=zE0 g) (z:=default) (l:=x.Items) (λj (n:Nat)=>(a,(n:Int),i,k,(),(j:Int),())) (λ_ _=>(x,())) (λy n=>.inl (n+1+zK y.Ann)) (λn=>(a,(n:Int),i,k)) (λi n=>n+zdo (x.Items.drop i)<=4611686018427387904)
  (λj n hi hI=>.inl ⟨_,rfl,by rw [zbx hi,zin] at hI; omega,λH K D=>by
   rw [zbx hi,zin] at hI;show (zrF g a n i k j x).ev H K D=_;unfold zrF;simp only [Wy.ev_i,Wy.ev_k,Wy.ev_h,Wy.ev_bn,Wy.ev_d,tT,hi,hg _ (zr hi)];rw [zgU (i:=j) (by omega),zgU (i:=n) (by omega),zoP (by omega)]⟩)
  (λn hI H K D=>by
   show (zrF g a n i k x.Items.length x).ev H K D=_;unfold zrF;simp only [Wy.ev_i,Wy.ev_k,tT,Nat.lt_irrefl]) fuel 0 n (by omega) (Nat.zero_le _) (by simpa using hn)
 rw [List.drop_zero,zc9,z5z] at h;exact h
theorem zP4:∀ (a:yC) (i:Nat),i<a.length->(a.getD i default).Fs.length<=zbV a
 | [],i,h=>by simp at h
 | t::r,0,h=>by
  have:∀ l:yD,l.length<=zLq l:=λl=>by
   induction l with
   | nil=>exact Nat.le_refl _
   | cons f r ih=>simp only [zLq,qf]; omega
  have:=this t.Fs;simp only [zbV,List.getD_cons_zero]; omega
 | t::r,i+1,h=>by
  have:=zP4 r i (by simpa using h)
  simp only [zbV,List.getD_cons_succ]; omega
theorem foldl_factors' (l:yD):∀ n:Nat,l.foldl (λs t=>s+1+zfm t.At) n=n+l.length+zby l:=by
 induction l with
 | nil=>intro n; rw [ziK]; rfl
 | cons a r ih=>intro n; rw [List.foldl_cons,ih,zcC,qf]; omega
theorem zblL (a:yC) (i:Nat) (hi:i<a.length) (hla:a.length<=1000000) (l:yD) (el:(a.getD i default).Fs=l) (hl:l.length<=1000000) (hg:∀ f∈l,(f.At.Ag.length<=1000000/\f.At.Items.length<=1000000)/\(∀ y∈f.At.Ag,g y=(true,(zK y:Int)))/\∀ y∈f.At.Items,g y.Ann=(true,(zK y.Ann:Int))) (fuel n:Nat) (hf:l.length<fuel) (hn:n+l.length+zby l<=4611686018427387904):
  zR5 g fuel a n i 0=(true,(a,((n+l.length+zby l:Nat):Int),(i:Int))):=by
 have h:=zc8 (W:=zGr g) (z:=default) (l:=l) (λk (n:Nat)=>(a,(n:Int),(i:Int),(k:Int),())) (λ_ _=>()) (λy n=>.inl (n+1+zfm y.At)) (λn=>(a,(n:Int),(i:Int))) (λk n=>n+(l.drop k).length+zby (l.drop k)<=4611686018427387904)
  (λk n hk hI=>.inl ⟨_,rfl,by rw [zbx hk,zcC,qf] at hI; omega,λH K D=>by
   rw [zbx hk,zcC,zhu,qf] at hI;obtain ⟨⟨h1,h2⟩,h3,h4⟩:=hg _ (zr hk);show (zuC g a n i k).ev H K D=_;unfold zuC;simp only [Wy.ev_i,Wy.ev_k,Wy.ev_h,Wy.ev_bn,Wy.ev_d,tT,hi,el,hk,At.eta];rw [zgU (i:=n) (by omega)]
   rw [zbkq g _ h1 h3 _ _ _ _ _ (by omega) (by omega)]
   simp only [cond_true,Int.toNat_natCast,At.eta];rw [zbkU g _ h2 h4 _ _ _ _ _ (by omega) (by omega)]
   simp only [cond_true];rw [zgU (by omega),zhu,Nat.add_assoc (n+1)]⟩)
  (λn hI H K D=>by
   show (zuC g a n i l.length).ev H K D=_;unfold zuC;simp only [Wy.ev_i,Wy.ev_k,tT,hi,el,Nat.lt_irrefl]) fuel 0 n (by omega) (Nat.zero_le _) (by simpa using hn)
 rw [List.drop_zero,zc9,foldl_factors'] at h;exact h
theorem zbmG (l:yC) (hl:l.length<=1000000) (hg:∀ t∈l,t.Fs.length<=1000000/\∀ f∈t.Fs,(f.At.Ag.length<=1000000/\f.At.Items.length<=1000000)/\(∀ y∈f.At.Ag,g y=(true,(zK y:Int)))/\∀ y∈f.At.Items,g y.Ann=(true,(zK y.Ann:Int))) (fuel n:Nat) (hf:l.length<fuel) (hn:n+zK l<=4611686018427387904):
  zRH g fuel l n 0=(true,((n+zK l:Nat):Int)):=by
 have h:=zc8 (W:=zF9 g) (z:=default) (l:=l) (λi (n:Nat)=>(l,(n:Int),(i:Int),())) (λ_ _=>()) (λy n=>.inl (n+1+y.Fs.length+zby y.Fs)) (λn=>(n:Int)) (λi n=>n+zK (l.drop i)<=4611686018427387904)
  (λi n hi hI=>.inl ⟨_,rfl,by rw [zbx hi,zcp] at hI; omega,λH K D=>by
   rw [zbx hi,zcp] at hI;obtain ⟨h1,h3⟩:=hg _ (zr hi);have hz:=zP4 l i hi;show (zus g l n i).ev H K D=_;unfold zus;simp only [Wy.ev_i,Wy.ev_k,Wy.ev_h,Wy.ev_bn,Wy.ev_d,tT,hi,At.eta];rw [zgU (i:=n) (by omega)]
   rw [zblL g l i hi hl _ rfl h1 h3 _ _ (by omega) (by omega)]
   simp only [cond_true];rw [zgU (by omega)]⟩)
  (λn hI H K D=>by
   show (zus g l n l.length).ev H K D=_;unfold zus;simp only [Wy.ev_i,Wy.ev_k,tT,Nat.lt_irrefl]) fuel 0 n (by omega) (Nat.zero_le _) (by simpa using hn)
 rw [List.drop_zero,zc9,zbbS] at h;exact h
end
theorem zbge {l:yA} {y:yC} (h:y∈l):zK y<=zfo l:=by
 induction l with
 | nil=>cases h
 | cons a r ih=>
  rw [zfa];rcases qd.1 h with rfl | h
  ·omega
  ·have:=ih h; omega
theorem zbeU {l:yE} {y:Wd} (h:y∈l):zK y.Ann<=zdo l:=by
 induction l with
 | nil=>cases h
 | cons a r ih=>
  rw [zin];rcases qd.1 h with rfl | h
  ·omega
  ·have:=ih h; omega
theorem zU8 {l:yD} {y:Fc} (h:y∈l):zfm y.At<=zby l:=by
 induction l with
 | nil=>cases h
 | cons a r ih=>
  rw [zcC];rcases qd.1 h with rfl | h
  ·omega
  ·have:=ih h; omega
theorem zbhU {l:yC} {y:Term} (h:y∈l):zby y.Fs<=zK l:=by
 induction l with
 | nil=>cases h
 | cons a r ih=>
  rw [zcp];rcases qd.1 h with rfl | h
  ·omega
  ·have:=ih h; omega
theorem zbbp {a:yC} {t:Term} {f:Fc} (ht:t∈a) (hf:f∈t.Fs):zfo f.At.Ag+zdo f.At.Items<=zK a:=by
 have h1:=zbhU ht; have h2:=zU8 hf; rw [zhu] at h2; omega
theorem zTj {d:Nat} {a:yC} (h:zm (d+1) a) {t:Term} (ht:t∈a):t.Fs.length<=1000000/\∀ f∈t.Fs,(f.At.Ag.length<=1000000/\f.At.Items.length<=1000000)/\(∀ y∈f.At.Ag,zm d y)/\∀ y∈f.At.Items,zm d y.Ann:=
 ⟨(h.2 t ht).1,λf hf=>have q:=(h.2 t ht).2 f hf; ⟨⟨q.1.1,q.1.2.1⟩,q.2.1,λy hy=>(q.2.2 y hy).2⟩⟩
theorem z6n:∀ (n d:Nat) (a:yC),zm d a->d<=n->zK a<=4611686018427387904->zl2 n a=(true,(zK a:Int))/\zwW n a=(true,(zK a:Int))
 | n,0,a,h,hd,hs=>h.elim
 | 0,d+1,a,h,hd,hs=>by omega
 | n+1,d+1,a,h,hd,hs=>by
  have hg:=λy (hy:zm d y) (hs:zK y<=4611686018427387904)=>z6n n d y hy (by omega) hs
  have hsub:∀ t∈a,t.Fs.length<=1000000/\∀ f∈t.Fs,(f.At.Ag.length<=1000000/\f.At.Items.length<=1000000)/\(∀ y∈f.At.Ag,zm d y/\zK y<=4611686018427387904)/\∀ y∈f.At.Items,zm d y.Ann/\zK y.Ann<=4611686018427387904:=λt ht=>by
   obtain ⟨h1,h2⟩:=zTj h ht;refine ⟨h1,λf hf=> ?_⟩
   obtain ⟨h3,h4,h5⟩:=h2 f hf;have h6:=zbbp ht hf;exact ⟨h3,λy hy=>⟨h4 y hy,by have:=zbge hy; omega⟩,λy hy=>⟨h5 y hy,by have:=zbeU hy; omega⟩⟩
  constructor
  ·rw [zXt];unfold zv8 zH8
   have h1:=zbnb (zl2 n) a h.1 (λt ht=>⟨(hsub t ht).1,λf hf=>⟨((hsub t ht).2 f hf).1,λy hy=>(hg y (((hsub t ht).2 f hf).2.1 y hy).1 (((hsub t ht).2 f hf).2.1 y hy).2).1,λy hy=>(hg _ (((hsub t ht).2 f hf).2.2 y hy).1 (((hsub t ht).2 f hf).2.2 y hy).2).1⟩⟩)
    (Int.toNat 0+a.length+(Int.ofNat a.length).toNat +Int.toNat 0+1) 0 (by omega) (by omega)
   rw [show ((0:Nat):Int)=(0:Int) from rfl,Nat.zero_add] at h1
   rw [Wy.fin_bn,show Int.ofNat a.length=(a.length:Int) from rfl] at *
   rw [h1]; rfl
  ·rw [z8C];unfold zGe zUB
   have h1:=zbmG (zwW n) a h.1 (λt ht=>⟨(hsub t ht).1,λf hf=>⟨((hsub t ht).2 f hf).1,λy hy=>(hg y (((hsub t ht).2 f hf).2.1 y hy).1 (((hsub t ht).2 f hf).2.1 y hy).2).2,λy hy=>(hg _ (((hsub t ht).2 f hf).2.2 y hy).1 (((hsub t ht).2 f hf).2.2 y hy).2).2⟩⟩)
    (a.length+Int.toNat 0+Int.toNat 0+1+zbV a) 0 (by omega) (by omega)
   rw [show ((0:Nat):Int)=(0:Int) from rfl,Nat.zero_add] at h1
   rw [Wy.fin_bn,h1]; rfl
end Go.Proofs.YtljlfiomikifjaaGreatDoor
end
