/- Texts of this claim, joined (the program, its functions in plain words, and what they compute). -/
import Derived.Test.YtljlfiomikifjaaGreatDoorGC6
set_option autoImplicit false
set_option linter.unusedVariables false
set_option linter.unusedSectionVars false
set_option linter.unusedSimpArgs false
set_option maxRecDepth 1000000
set_option maxHeartbeats 0
noncomputable section
namespace Go.Proofs.YtljlfiomikifjaaGreatDoor
open Go Go.Ab
open Go.Proofs.Tryz
abbrev zDx:=yG×Unit×Unit×Int×Unit
abbrev zDu:=At×yA×Unit
abbrev zYd:=Int⊕(yG×At×yA)
abbrev zDr:=yG×Unit×Unit×Unit×Int×Unit
abbrev zDz:=At×yA×yE×Unit
abbrev zXS:=Int⊕(At×yA×yE)
def zFW (zbl:yC->yG->Bool×(yC×Int)) (l:yG) (i:Int) (x_:At) (args:yA):Wy zDx zDu zYd:=.i (decide (i<Int.ofNat x_.Ag.length)) (.i (decide (0<=i)&&decide (i<Int.ofNat x_.Ag.length)) (.bn (zbl (x_.Ag.getD i.toNat default) l) λr0=>.i (r0.2 != 0) (.k (.inl (r0.2))) (.i (decide ((args.length+[r0.1].length)*24<=zP)) (.h (l,(),(),(IntKind.i64.wrap (i+1)),()) (x_,(args++[r0.1]),())) .d)) .d) (.k (.inr (l,x_,args)))
def zRe (zbl:yC->yG->Bool×(yC×Int)) (x:zDx) (y:zDu):=zFW zbl x.1 x.2.2.2.1 y.1 y.2.1
def zFr (zbl:yC->yG->Bool×(yC×Int)) (n:Nat) (l:yG) (i:Int) (x_:At) (args:yA):=zA (zRe zbl) (.inl default) n (l,(),(),i,()) (x_,args,())
def z64 (r:zYd):LTree ty:=.ite (isL r) (.done .ret [.lit (.slice none 0 0),.lit (.int .i64 (getL r))] []) (.done (.exit 0) [.sl 51 (getR r).1,.ptr 512 0,.own 513] [.box (base.enc 67 (getR r).2.1) false,.arr 23 (getR r).2.2 false])
def z9z:LL ty zDx:=za (lSl 51) (za (zeb 512 0) (za (zdK 513) (za zj zk)))
def z8L:BL ty zDu:=zf8 (zeR (λx=>(⟨x.1,⟨x.2.1,x.2.2.1⟩,x.2.2.2.1,x.2.2.2.2.1,x.2.2.2.2.2.1,x.2.2.2.2.2.2.1,⟨x.2.2.2.2.2.2.2.1,x.2.2.2.2.2.2.2.2.1,x.2.2.2.2.2.2.2.2.2.1⟩⟩:At)) (λx=>(x.Kind,x.Row.Table,x.Row.Seq,x.Ag,x.Func,x.Items,x.Op,x.Bd.Kind,x.Bd.Int,x.Bd.Text,())) (λ_=>rfl) (za (zB .i64) (za (zB .i64) (za (zB .i64) (za (lSl 23) (za (zB .i64) (za (lSl 100) (za (zB .i64) (za (zB .i64) (za (zB .i64) (za zl4 zk))))))))))) false (zdO 23 false (z8))
def zDP (zbl:yC->yG->Bool×(yC×Int)) (l:yG) (i:Int) (x_:At) (args:yA) (items:yE):Wy zDr zDz zXS:=.i (decide (i<Int.ofNat x_.Items.length)) (.i (decide (0<=i)&&decide (i<Int.ofNat x_.Items.length)) (.bn (zbl (x_.Items.getD i.toNat default).Ann l) λr2=>.i (r2.2 != 0) (.k (.inl (r2.2))) (.i (decide (0<=i)&&decide (i<Int.ofNat x_.Items.length)) (.i (decide ((items.length+[WO.mk (x_.Items.getD i.toNat default).Value r2.1].length)*56<=zP)) (.h (l,(),(),(),(IntKind.i64.wrap (i+1)),()) (x_,args,(items++[WO.mk (x_.Items.getD i.toNat default).Value r2.1]),())) .d) .d)) .d) (.k (.inr (x_,args,items)))
def zOY (zbl:yC->yG->Bool×(yC×Int)) (x:zDr) (y:zDz):=zDP zbl x.1 x.2.2.2.2.1 y.1 y.2.1 y.2.2.1
def zDS (zbl:yC->yG->Bool×(yC×Int)) (n:Nat) (l:yG) (i:Int) (x_:At) (args:yA) (items:yE):=zA (zOY zbl) (.inl default) n (l,(),(),(),i,()) (x_,args,items,())
def z4s (r:zXS):LTree ty:=.ite (isL r) (.done .ret [.lit (.slice none 0 0),.lit (.int .i64 (getL r))] []) (.done (.exit 2) [.ptr 512 0,.own 513,.own 514] [.box (base.enc 67 (getR r).1) false,.arr 23 (getR r).2.1 false,.arr 100 (getR r).2.2 false])
def z62:LL ty zDr:=za (lSl 51) (za (zeb 512 0) (za (zdK 513) (za (zdK 514) (za zj zk))))
def z6v:BL ty zDz:=zf8 (zeR (λx=>(⟨x.1,⟨x.2.1,x.2.2.1⟩,x.2.2.2.1,x.2.2.2.2.1,x.2.2.2.2.2.1,x.2.2.2.2.2.2.1,⟨x.2.2.2.2.2.2.2.1,x.2.2.2.2.2.2.2.2.1,x.2.2.2.2.2.2.2.2.2.1⟩⟩:At)) (λx=>(x.Kind,x.Row.Table,x.Row.Seq,x.Ag,x.Func,x.Items,x.Op,x.Bd.Kind,x.Bd.Int,x.Bd.Text,())) (λ_=>rfl) (za (zB .i64) (za (zB .i64) (za (zB .i64) (za (lSl 23) (za (zB .i64) (za (lSl 100) (za (zB .i64) (za (zB .i64) (za (zB .i64) (za zl4 zk))))))))))) false (zdO 23 false (zdO 100 false (z8)))
def z7N (x:zDx) (y:zDu):Nat:=(x.1.length+Int.toNat x.2.2.2.1+y.1.Ag.length+y.1.Items.length+y.2.1.length+1)
def z4P (x:zDr) (y:zDz):Nat:=(x.1.length+Int.toNat x.2.2.2.2.1+y.1.Ag.length+y.1.Items.length+y.2.1.length+y.2.2.1.length+1)
def zFn (zbl:yC->yG->Bool×(yC×Int)):=zbY base 128 [(47,zD7),(98,zHj),(148,(zuh zbl)),(213,zPb),(214,zOv),(215,zL6),(216,zQv)] [] [(8,(kpL [1,2,8,9])),(16,(kpL [1,2,8,12,13]))] [(8,1,(kpL [1,2,8])),(8,0,(kpL [4,5])),(16,3,(kpL [2,8,12])),(16,0,(kpL [4,5]))] [(8,spW z9z z8L (zRe zbl) (.inl default) z64 z7N),(16,spW z62 z6v (zOY zbl) (.inl default) z4s z4P)] []
theorem z6L (zbl:yC->yG->Bool×(yC×Int)):zy (zFn zbl) (lp (body f176) 0):=zm (id:=8) (hl:=rfl)
theorem z3K (zbl:yC->yG->Bool×(yC×Int)):zy (zFn zbl) (lp (body f176) 1):=zm (id:=16) (hl:=rfl)
def zU5 (zbl:yC->yG->Bool×(yC×Int)) (x_:At) (l:yG):Wy0 (yC×Int):=.i (x_.Kind==0) (.bn (zC9 l x_.Row) λr5=>.i (r5.2) (.k (r5.1,0)) (.bn (zEi x_.Row) λr4=>.k (r4,0))) (.bn (zFr zbl (l.length+Int.toNat 0+x_.Ag.length+x_.Items.length+0+1) l 0 (At.mk x_.Kind x_.Row x_.Ag x_.Func x_.Items x_.Op x_.Bd) []) λr11=>.i (isL r11) (.k ([],getL r11)) (.bn (zDS zbl ((getR r11).1.length+Int.toNat 0+(getR r11).2.1.Ag.length+(getR r11).2.1.Items.length+(getR r11).2.2.length+0+1) (getR r11).1 0 (At.mk (getR r11).2.1.Kind (getR r11).2.1.Row (getR r11).2.1.Ag (getR r11).2.1.Func (getR r11).2.1.Items (getR r11).2.1.Op (getR r11).2.1.Bd) (getR r11).2.2 []) λr10=>.i (isL r10) (.k ([],getL r10)) (.i ((getR r10).1.Kind==1) (.i (decide ((0:Int)<=(0:Int))&&decide (0<Int.ofNat (getR r10).2.1.length)) (.i (decide ((0:Int)<=(1:Int))&&decide (1<Int.ofNat (getR r10).2.1.length)) (.bn (zC2 ((getR r10).2.1.getD (Int.toNat 0) default) ((getR r10).2.1.getD (Int.toNat 1) default)) λr6=>.k (r6.1,r6.2)) .d) .d) (.i ((getR r10).1.Kind==2) (.i (decide ((0:Int)<=(0:Int))&&decide (0<Int.ofNat (getR r10).2.1.length)) (.bn (zDb ((getR r10).2.1.getD (Int.toNat 0) default)) λr7=>.k (r7.1,r7.2)) .d) (.i ((getR r10).1.Kind==3) (.i (decide ((0:Int)<=(0:Int))&&decide (0<Int.ofNat (getR r10).2.1.length)) (.bn (zAk ((getR r10).2.1.getD (Int.toNat 0) default)) λr8=>.k (r8.1,r8.2)) .d) (.bn (zBI (getR r10).1.Func (getR r10).2.2 (getR r10).1.Op (getR r10).1.Bd) λr9=>.k (r9.1,r9.2)))))))
def zAQ (zbl:yC->yG->Bool×(yC×Int)) (x_:At) (l:yG):=(zU5 zbl x_ l).fin default
theorem zZ2 (zbl:yC->yG->Bool×(yC×Int)) (z4l:SdP 148 (zuh zbl)):SdP 176 (zGj (zAQ zbl)):=
 sT (cx':=(zFn zbl)) (zi ⟨zLF,zRg,z4l,z4L,z3J,z01,z7a,trivial⟩) call176 func176 (lOK (aC (z6L zbl) (aC (z3K zbl) aN))) (sg:=⟨[.pure,.pure],[]⟩)
def zbgk:=zbt base 20 [(16,zhX),(45,zHP),(101,zmK)]
def z5r (a:yC) (b:yC):Wy0 (yC×Int):=.bn (zf4 a) λr3=>.i (!r3) (.k ([],1)) (.bn (zf4 b) λr2=>.i (!r2) (.k ([],1)) (.bn (zEu a b) λr1=>.bn (znv r1) λr0=>.k (r0.1,r0.2)))
def zJl (a:yC) (b:yC):=(z5r a b).fin default
def zUb:=zh zWi λx=>((zJl x.1 x.2.1).1,zbdA (zJl x.1 x.2.1).2)
theorem z8h:SdP 93 zUb:=
 sT (cx':=zbgk) (zi ⟨zjq,zQJ,zod,trivial⟩) call93 func93 (lOK aN) (sg:=⟨[.pure,.pure],[]⟩)
def zbeI:=zbt base 20 [(16,zhX),(17,zAI),(101,zmK)]
def z5F (a:yC) (b:yC):Wy0 (yC×Int):=.bn (zf4 a) λr3=>.i (!r3) (.k ([],1)) (.bn (zf4 b) λr2=>.i (!r2) (.k ([],1)) (.bn (zos a b) λr1=>.bn (znv r1) λr0=>.k (r0.1,r0.2)))
def zIy (a:yC) (b:yC):=(z5F a b).fin default
def zS1:=zh zWi λx=>((zIy x.1 x.2.1).1,zbdA (zIy x.1 x.2.1).2)
theorem z9d:SdP 94 zS1:=
 sT (cx':=zbeI) (zi ⟨zjq,zGE,zod,trivial⟩) call94 func94 (lOK aN) (sg:=⟨[.pure,.pure],[]⟩)
abbrev zxv:=yC×yG×yC×Int×yC×Int×yC×Int×Int×Unit
abbrev zO4:=yC×yG×yC×Int×yC×Int×Int
abbrev zxj:=yC×yG×yC×Int×yC×Int×Unit
abbrev zNH:=Int⊕(yC×yG×yC×Int×yC)
abbrev zxg:=yC×yG×yC×Int×Unit
abbrev zOG:=Int⊕yC
def zzo (zbh:At->yG->Bool×(yC×Int)) (a:yC) (l:yG) (out_:yC) (i:Int) (t:yC) (k:Int) (x_:yC) (e:Int) (n_:Int):Wy zxv Unit zO4:=.i (decide (0<=i)&&decide (i<Int.ofNat a.length)) (.i (decide (0<=k)&&decide (k<Int.ofNat (a.getD i.toNat default).Fs.length)) (.i (decide (n_<((a.getD i.toNat default).Fs.getD k.toNat default).Exp)) (.i (e==0) (.bn (zIy t x_) λr8=>.h (a,l,out_,i,(r8.1),k,x_,(r8.2),(IntKind.i64.wrap (n_+1)),()) ()) (.k (a,l,out_,i,t,k,e))) (.k (a,l,out_,i,t,k,e))) .d) .d
def zGY (zbh:At->yG->Bool×(yC×Int)) (x:zxv) (y:Unit):=zzo zbh x.1 x.2.1 x.2.2.1 x.2.2.2.1 x.2.2.2.2.1 x.2.2.2.2.2.1 x.2.2.2.2.2.2.1 x.2.2.2.2.2.2.2.1 x.2.2.2.2.2.2.2.2.1
def zzm (zbh:At->yG->Bool×(yC×Int)) (n:Nat) (a:yC) (l:yG) (out_:yC) (i:Int) (t:yC) (k:Int) (x_:yC) (e:Int) (n_:Int):=zA (zGY zbh) default n (a,l,out_,i,t,k,x_,e,n_,()) ()
def zXb (r:zO4):LTree ty:=.done (.exit 4) [.sl 28 r.1,.sl 51 r.2.1,.sl 28 r.2.2.1,.lit (.int .i64 r.2.2.2.1),.sl 28 r.2.2.2.2.1,.lit (.int .i64 r.2.2.2.2.2.1),.lit (.int .i64 r.2.2.2.2.2.2)] []
def zYO:LL ty zxv:=za (lSl 28) (za (lSl 51) (za (lSl 28) (za zj (za (lSl 28) (za zj (za (lSl 28) (za zj (za zj zk))))))))
def zAG (zbh:At->yG->Bool×(yC×Int)) (a:yC) (l:yG) (out_:yC) (i:Int) (t:yC) (k:Int):Wy zxj Unit zNH:=.i (decide (0<=i)&&decide (i<Int.ofNat a.length)) (.i (decide (k<Int.ofNat (a.getD i.toNat default).Fs.length)) (.i (decide (0<=i)&&decide (i<Int.ofNat a.length)) (.i (decide (0<=k)&&decide (k<Int.ofNat (a.getD i.toNat default).Fs.length)) (.bn (zbh (At.mk ((a.getD i.toNat default).Fs.getD k.toNat default).At.Kind ((a.getD i.toNat default).Fs.getD k.toNat default).At.Row ((a.getD i.toNat default).Fs.getD k.toNat default).At.Ag ((a.getD i.toNat default).Fs.getD k.toNat default).At.Func ((a.getD i.toNat default).Fs.getD k.toNat default).At.Items ((a.getD i.toNat default).Fs.getD k.toNat default).At.Op ((a.getD i.toNat default).Fs.getD k.toNat default).At.Bd) l) λr11=>.bn (zzm zbh ((a.length+l.length+out_.length+i.toNat +t.length+k.toNat +r11.1.length+r11.2.toNat +Int.toNat 0+1)+zbD a+zbD out_+zbD t+zbD r11.1) a l out_ i t k r11.1 r11.2 0) λr10=>.i (r10.2.2.2.2.2.2 != 0) (.k (.inl (r10.2.2.2.2.2.2))) (.h ((r10.1),(r10.2.1),(r10.2.2.1),(r10.2.2.2.1),(r10.2.2.2.2.1),(IntKind.i64.wrap (r10.2.2.2.2.2.1+1)),()) ())) .d) .d) (.k (.inr (a,l,out_,i,t)))) .d
def zJC (zbh:At->yG->Bool×(yC×Int)) (x:zxj) (y:Unit):=zAG zbh x.1 x.2.1 x.2.2.1 x.2.2.2.1 x.2.2.2.2.1 x.2.2.2.2.2.1
def zAh (zbh:At->yG->Bool×(yC×Int)) (n:Nat) (a:yC) (l:yG) (out_:yC) (i:Int) (t:yC) (k:Int):=zA (zJC zbh) (.inl default) n (a,l,out_,i,t,k,()) ()
def zZo (r:zNH):LTree ty:=.ite (isL r) (.done .ret [.lit (.slice none 0 0),.lit (.int .i64 (getL r))] []) (.done (.exit 2) [.sl 28 (getR r).1,.sl 51 (getR r).2.1,.sl 28 (getR r).2.2.1,.lit (.int .i64 (getR r).2.2.2.1),.sl 28 (getR r).2.2.2.2] [])
def z0w:LL ty zxj:=za (lSl 28) (za (lSl 51) (za (lSl 28) (za zj (za (lSl 28) (za zj zk)))))
def zA3 (zbh:At->yG->Bool×(yC×Int)) (a:yC) (l:yG) (out_:yC) (i:Int):Wy zxg Unit zOG:=.i (decide (i<Int.ofNat a.length)) (.i (decide (0<=i)&&decide (i<Int.ofNat a.length)) (.bn (zDa (a.getD i.toNat default).Cf) λr16=>.bn (zAh zbh ((a.length+l.length+out_.length+i.toNat +r16.length+Int.toNat 0+1)+zbD a+zbD out_+zbD r16) a l out_ i r16 0) λr15=>.i (isL r15) (.k (.inl (getL r15))) (.bn (zJl (getR r15).2.2.1 (getR r15).2.2.2.2) λr14=>.i (r14.2 != 0) (.k (.inl (r14.2))) (.h ((getR r15).1,(getR r15).2.1,(r14.1),(IntKind.i64.wrap ((getR r15).2.2.2.1+1)),()) ()))) .d) (.k (.inr out_))
def zJL (zbh:At->yG->Bool×(yC×Int)) (x:zxg) (y:Unit):=zA3 zbh x.1 x.2.1 x.2.2.1 x.2.2.2.1
def zA6 (zbh:At->yG->Bool×(yC×Int)) (n:Nat) (a:yC) (l:yG) (out_:yC) (i:Int):=zA (zJL zbh) (.inl default) n (a,l,out_,i,()) ()
def zZF (r:zOG):LTree ty:=.ite (isL r) (.done .ret [.lit (.slice none 0 0),.lit (.int .i64 (getL r))] []) (.done (.exit 0) [.sl 28 (getR r)] [])
def z1I:LL ty zxg:=za (lSl 28) (za (lSl 51) (za (lSl 28) (za zj zk)))
def zXA (x:zxv) (y:Unit):Nat:=((x.1.length+x.2.1.length+x.2.2.1.length+Int.toNat x.2.2.2.1+x.2.2.2.2.1.length+Int.toNat x.2.2.2.2.2.1+x.2.2.2.2.2.2.1.length+Int.toNat x.2.2.2.2.2.2.2.1+Int.toNat x.2.2.2.2.2.2.2.2.1+1)+zbD x.1+zbD x.2.2.1+zbD x.2.2.2.2.1+zbD x.2.2.2.2.2.2.1)
def zYQ (x:zxj) (y:Unit):Nat:=((x.1.length+x.2.1.length+x.2.2.1.length+Int.toNat x.2.2.2.1+x.2.2.2.2.1.length+Int.toNat x.2.2.2.2.2.1+1)+zbD x.1+zbD x.2.2.1+zbD x.2.2.2.2.1)
def zZB (x:zxg) (y:Unit):Nat:=((x.1.length+x.2.1.length+x.2.2.1.length+Int.toNat x.2.2.2.1+1)+zbD x.1+zbD x.2.2.1)
def ztP (zbh:At->yG->Bool×(yC×Int)):=zbY base 89 [(46,zD0),(93,zUb),(94,zS1),(176,(zGj zbh))] [] [(3,[(0,.keep),(1,.keep),(6,.sl 28),(7,.keep)]),(7,[(0,.keep),(1,.keep),(6,.keep),(7,.keep),(8,.sl 28),(9,.keep)]),(11,[(0,.keep),(1,.keep),(6,.keep),(7,.keep),(8,.sl 28),(9,.keep),(10,.keep),(11,.keep),(12,.keep)])] [(3,1,(kpL [6])),(3,0,(kpL [4,5])),(7,3,(kpL [0,1,6,7,8])),(7,0,(kpL [4,5])),(11,5,(kpL [0,1,6,7,8,9,11]))] [(11,spW zYO zbc9 (zGY zbh) default zXb zXA),(7,spW z0w zbc9 (zJC zbh) (.inl default) zZo zYQ),(3,spW z1I zbc9 (zJL zbh) (.inl default) zZF zZB)] []
theorem zVU (zbh:At->yG->Bool×(yC×Int)):zy (ztP zbh) (lp (body f148) 2):=zm (id:=11) (hl:=rfl)
theorem zZm (zbh:At->yG->Bool×(yC×Int)):zy (ztP zbh) (lp (body f148) 1):=zm (id:=7) (hl:=rfl)
theorem zZf (zbh:At->yG->Bool×(yC×Int)):zy (ztP zbh) (lp (body f148) 0):=zm (id:=3) (hl:=rfl)
def zL3 (zbh:At->yG->Bool×(yC×Int)) (a:yC) (l:yG):Wy0 (yC×Int):=.bn (zA6 zbh ((a.length+l.length+0+Int.toNat 0+1)+zbD a+zbD []) a l [] 0) λr20=>.i (isL r20) (.k ([],getL r20)) (.k (getR r20,0))
def zto (zbh:At->yG->Bool×(yC×Int)) (a:yC) (l:yG):=(zL3 zbh a l).fin default
theorem zSZ (zbh:At->yG->Bool×(yC×Int)) (zbbg:SdP 176 (zGj zbh)):SdP 148 (zuh (zto zbh)):=
 sT (cx':=(ztP zbh)) (zi ⟨zLZ,z8h,z9d,zbbg,trivial⟩) call148 func148 (lOK (aC (zZf zbh) (aC (zZm zbh) (aC (zVU zbh) aN)))) (sg:=⟨[.pure,.pure],[]⟩)
def zFV:Nat->(yC->yG->Bool×(yC×Int))×(At->yG->Bool×(yC×Int))
 | 0=>(λ_ _=>(false,default),λ_ _=>(false,default))
 | n+1=>(zto ((zFV n).2),zAQ ((zFV n).1))
def ztm (n:Nat):yC->yG->Bool×(yC×Int):=(zFV n).1
def zAA (n:Nat):At->yG->Bool×(yC×Int):=(zFV n).2
theorem z1c (n:Nat):ztm (n+1)=zto (zAA n):=rfl
theorem z7Y (n:Nat):zAA (n+1)=zAQ (ztm n):=rfl
theorem zT1:∀ n,SdP 148 (zuh (ztm n))/\SdP 176 (zGj (zAA n))
 | 0=>⟨zba call148 (λ_=>rfl),zba call176 (λ_=>rfl)⟩
 | n+1=>by
  have ih:=zT1 n;exact ⟨zSZ _ (ih.2),zZ2 _ (ih.1)⟩
def zLw:yC->yG->Bool×(yC×Int):=ztm 1000
def zJ8:Ab.Spec ty:=zuh zLw
theorem zYV:SdP 148 zJ8:=(zT1 1000).1
abbrev zrK:=yC×yG×Int×Unit
abbrev zG0:=Int⊕(yC×yG)
def zzi (a:yC) (l:yG) (i:Int):Wy zrK Unit zG0:=.i (decide (i<Int.ofNat l.length)) (.i (decide (0<=i)&&decide (i<Int.ofNat l.length)) (.bn (zf4 (l.getD i.toNat default).To) λr0=>.i (!r0) (.k (.inl 1)) (.h (a,l,(IntKind.i64.wrap (i+1)),()) ())) .d) (.k (.inr (a,l)))
def zGO (x:zrK) (y:Unit):=zzi x.1 x.2.1 x.2.2.1
def zze (n:Nat) (a:yC) (l:yG) (i:Int):=zA (zGO) (.inl default) n (a,l,i,()) ()
def zWq (r:zG0):LTree ty:=.ite (isL r) (.done .ret [.lit (.slice none 0 0),.lit (.int .i64 (getL r))] []) (.done (.exit 0) [.sl 28 (getR r).1,.sl 51 (getR r).2] [])
def zZq:LL ty zrK:=za (lSl 28) (za (lSl 51) (za zj zk))
def zVr (x:zrK) (y:Unit):Nat:=(x.1.length+x.2.1.length+Int.toNat x.2.2.1+1)
def zG2:=zbY base 28 [(16,zhX),(148,zJ8)] [] [(4,(kpL [0,1,6]))] [(4,1,(kpL [0,1])),(4,0,(kpL [4,5]))] [(4,spW zZq zbc9 (zGO) (.inl default) zWq zVr)] []
theorem zWM:zy zG2 (lp (body f79) 0):=zm (id:=4) (hl:=rfl)
def zIN (a:yC) (l:yG):Wy0 (yC×Int):=.bn (zf4 a) λr4=>.i (!r4) (.k ([],1)) (.bn (zze (a.length+l.length+Int.toNat 0+1) a l 0) λr3=>.i (isL r3) (.k ([],getL r3)) (.bn (zLw (getR r3).1 (getR r3).2) λr2=>.k (r2.1,r2.2)))
def zqZ (a:yC) (l:yG):=(zIN a l).fin default
def zEl:=zh z93 λx=>((zqZ x.1 x.2.1).1,zbdA (zqZ x.1 x.2.1).2)
theorem zR5:SdP 79 zEl:=
 sT (cx':=zG2) (zi ⟨zjq,zYV,trivial⟩) call79 func79 (lOK (aC zWM aN)) (sg:=⟨[.pure,.pure],[]⟩)
abbrev zBL:=yC×yF×Unit×Int×Unit
abbrev zkl:=yG×Unit
abbrev zBw:=yC×yG
abbrev zBt:=yC×Unit×yF×Int×Unit
def zv6 (a:yC) (present:yF) (i:Int) (l:yG):Wy zBL zkl zBw:=.i (decide (i<Int.ofNat present.length)) (.i (decide (0<=i)&&decide (i<Int.ofNat present.length)) (.i (decide ((l.length+[Bg.mk (present.getD i.toNat default) zw2.2].length)*40<=zP)) (.h (a,present,(),(IntKind.i64.wrap (i+1)),()) ((l++[Bg.mk (present.getD i.toNat default) zw2.2]),())) .d) .d) (.k (a,l))
def zHR (x:zBL) (y:zkl):=zv6 x.1 x.2.1 x.2.2.2.1 y.1
def zVg (n:Nat) (a:yC) (present:yF) (i:Int) (l:yG):=zA (zHR) default n (a,present,(),i,()) (l,())
def z74 (r:zBw):LTree ty:=.done (.exit 0) [.sl 28 r.1,.own 188] [.arr 51 r.2 false]
def zbbe:LL ty zBL:=za (lSl 28) (za (lSl 49) (za (zdK 188) (za zj zk)))
def zbaI:BL ty zkl:=zdO 51 false (z8)
def zwp (a:yC) (all:yF) (i:Int) (l:yG):Wy zBt zkl zBw:=.i (decide (i<Int.ofNat all.length)) (.i (decide (0<=i)&&decide (i<Int.ofNat all.length)) (.i (decide ((l.length+[Bg.mk (all.getD i.toNat default) []].length)*40<=zP)) (.h (a,(),all,(IntKind.i64.wrap (i+1)),()) ((l++[Bg.mk (all.getD i.toNat default) []]),())) .d) .d) (.k (a,l))
def zHk (x:zBt) (y:zkl):=zwp x.1 x.2.2.1 x.2.2.2.1 y.1
def zS0 (n:Nat) (a:yC) (all:yF) (i:Int) (l:yG):=zA (zHk) default n (a,(),all,i,()) (l,())
def z79 (r:zBw):LTree ty:=.done (.exit 2) [.sl 28 r.1,.own 188] [.arr 51 r.2 false]
def zbaH:LL ty zBt:=za (lSl 28) (za (zdK 188) (za (lSl 49) (za zj zk)))
def z9H (x:zBL) (y:zkl):Nat:=(x.1.length+x.2.1.length+Int.toNat x.2.2.2.1+y.1.length+1000)
def z9c (x:zBt) (y:zkl):Nat:=(x.1.length+x.2.2.1.length+Int.toNat x.2.2.2.1+y.1.length+1000)
def zIn:=zbY base 47 [(77,zvZ),(78,zFC),(79,zEl)] [] [(3,(kpL [0,1,6,7])),(8,(kpL [0,6,8,9]))] [(3,1,(kpL [0,6])),(8,3,(kpL [0,6]))] [(3,spW zbbe zbaI (zHR) default z74 z9H),(8,spW zbaH zbaI (zHk) default z79 z9c)] []
theorem z9n:zy zIn (lp (body f27) 0):=zm (id:=3) (hl:=rfl)
theorem z9o:zy zIn (lp (body f27) 1):=zm (id:=8) (hl:=rfl)
def zYb (a:yC) (present:yF):Wy0 (yC×Int):=.bn (zVg (a.length+present.length+Int.toNat 0+0+1000) a present 0 []) λr3=>.bn (zFO r3.1) λr2=>.bn (zS0 (r3.1.length+r2.length+Int.toNat 0+r3.2.length+1000) r3.1 r2 0 r3.2) λr1=>.bn (zqZ r1.1 r1.2) λr0=>.k (r0.1,r0.2)
def zuL (a:yC) (present:yF):=(zYb a present).fin default
def zbdC:AL base (yC×yF×Unit):=zc (ze (vSl 28)) (zc (ze (vSl 49)) zo)
def zPl:=zh zbdC λx=>((zuL x.1 x.2.1).1,zbdA (zuL x.1 x.2.1).2)
theorem z3C:SdP 27 zPl:=
 sT (cx':=zIn) (zi ⟨zzD,zU6,zR5,trivial⟩) call27 func27 (lOK (aC z9n (aC z9o aN))) (sg:=⟨[.pure,.pure],[]⟩)
abbrev zkP:=yC×Unit×Int×Int×Unit
abbrev zbP:=yB×Unit
abbrev zzU:=Bool⊕(yC×Int×yB)
abbrev zkD:=yC×Unit×Int×Unit
abbrev zpT:=yC×Unit×Unit
abbrev zpF:=yC×yF×Unit×Unit
abbrev zer:=yC×yF×Unit
def zgJ (a:yC) (i:Int) (k:Int) (l:yB):Wy zkP zbP zzU:=.i (decide (0<=i)&&decide (i<Int.ofNat l.length)) (.i (decide (k<Int.ofNat (List.length (l.getD i.toNat default)))) (.i (decide (0<=i)&&decide (i<Int.ofNat l.length)) (.i (decide ((0:Int)<=(0:Int))&&decide (0<=k)&&decide (k<=Int.ofNat (List.length (l.getD i.toNat default)))) (.i (decide ((0+(List.take (k.toNat - Int.toNat 0) (List.drop (Int.toNat 0) (l.getD i.toNat default))).length)*16<=zP)) (.i (decide (0<=i)&&decide (i<Int.ofNat l.length)) (.i (decide (0<=IntKind.i64.wrap (k+1))&&decide (IntKind.i64.wrap (k+1)<=Int.ofNat (List.length (l.getD i.toNat default)))&&decide (Int.ofNat (List.length (l.getD i.toNat default))<=Int.ofNat (List.length (l.getD i.toNat default)))) (.i (decide ((([]++List.take (k.toNat - Int.toNat 0) (List.drop (Int.toNat 0) (l.getD i.toNat default))).length+(List.take ((Int.ofNat (List.length (l.getD i.toNat default))).toNat - (IntKind.i64.wrap (k+1)).toNat) (List.drop (IntKind.i64.wrap (k+1)).toNat (l.getD i.toNat default))).length)*16<=zP)) (.bn (zuL a ([]++List.take (k.toNat - Int.toNat 0) (List.drop (Int.toNat 0) (l.getD i.toNat default))++List.take ((Int.ofNat (List.length (l.getD i.toNat default))).toNat - (IntKind.i64.wrap (k+1)).toNat) (List.drop (IntKind.i64.wrap (k+1)).toNat (l.getD i.toNat default)))) λr0=>.i (r0.2==0) (.i (decide (Int.ofNat r0.1.length>0)) (.k (.inl false)) (.h (a,(),i,(IntKind.i64.wrap (k+1)),()) (l,()))) (.h (a,(),i,(IntKind.i64.wrap (k+1)),()) (l,()))) .d) .d) .d) .d) .d) .d) (.k (.inr (a,i,l)))) .d
def zoz (x:zkP) (y:zbP):=zgJ x.1 x.2.2.1 x.2.2.2.1 y.1
def zou (n:Nat) (a:yC) (i:Int) (k:Int) (l:yB):=zA (zoz) (.inl default) n (a,(),i,k,()) (l,())
def zJu (r:zzU):LTree ty:=.ite (isL r) (.done .ret [.lit (.bool (getL r))] []) (.done (.exit 2) [.sl 28 (getR r).1,.own 440,.lit (.int .i64 (getR r).2.1)] [.arr 43 (getR r).2.2 false])
def zKz:LL ty zkP:=za (lSl 28) (za (zdK 440) (za zj (za zj zk)))
def zK6:BL ty zbP:=zdO 43 false (z8)
def zgL (a:yC) (i:Int) (l:yB):Wy zkD zbP (Bool⊕Unit):=.i (decide (i<Int.ofNat l.length)) (.i (decide (0<=i)&&decide (i<Int.ofNat l.length)) (.bn (zuL a (l.getD i.toNat default)) λr4=>.i (r4.2==0) (.i (Int.ofNat r4.1.length==0) (.k (.inl false)) (.bn (zou (a.length+i.toNat +Int.toNat 0+l.length+1000) a i 0 l) λr2=>.i (isL r2) (.k (.inl (getL r2))) (.h ((getR r2).1,(),(IntKind.i64.wrap ((getR r2).2.1+1)),()) ((getR r2).2.2,())))) (.bn (zou (a.length+i.toNat +Int.toNat 0+l.length+1000) a i 0 l) λr3=>.i (isL r3) (.k (.inl (getL r3))) (.h ((getR r3).1,(),(IntKind.i64.wrap ((getR r3).2.1+1)),()) ((getR r3).2.2,())))) .d) (.k (.inr ()))
def zot (x:zkD) (y:zbP):=zgL x.1 x.2.2.1 y.1
def zyd (n:Nat) (a:yC) (i:Int) (l:yB):=zA (zot) (.inl default) n (a,(),i,()) (l,())
def zKm:LL ty zkD:=za (lSl 28) (za (zdK 440) (za zj zk))
def zol (a:yC) (l:yB):Wy zpT zbP (Bool):=.bn (zyd (a.length+Int.toNat 0+l.length+1000) a 0 l) λr8=>.i (isL r8) (.k (getL r8)) (.k true)
def zoi (x:zpT) (y:zbP):=zol x.1 y.1
def zow (n:Nat) (a:yC) (l:yB):=zA (zoi) default n (a,(),()) (l,())
def zKH:LL ty zpT:=za (lSl 28) (za (zdK 440) zk)
def zp0 (a:yC) (set_:yF) (l:yB):Wy zpF zbP (Bool):=.bn (zuL a set_) λr13=>.i (r13.2==0) (.bn (zvC set_ l) λr11=>.i (!decide (Int.ofNat r13.1.length>0)==r11) (.k false) (.bn (zow 1 a l) λr10=>.k r10)) (.bn (zow 1 a l) λr12=>.k r12)
def zpH (x:zpF) (y:zbP):=zp0 x.1 x.2.1 y.1
def zkC (n:Nat) (a:yC) (set_:yF) (l:yB):=zA (zpH) default n (a,set_,(),()) (l,())
def zMY:LL ty zpF:=za (lSl 28) (za (lSl 49) (za (zdK 440) zk))
def zpb (a:yC) (set_:yF):Wy zer Unit (Bool):=.bn (zlz a) λr19=>.i (r19.2 != 0) (.k (Int.ofNat r19.1.length==0)) (.bn (zkC 1 a set_ r19.1) λr18=>.k r18)
def zpg (x:zer) (y:Unit):=zpb x.1 x.2.1
def zzT (n:Nat) (a:yC) (set_:yF):=zA (zpg) default n (a,set_,()) ()
def zMG:LL ty zer:=za (lSl 28) (za (lSl 49) zk)
def zp3 (a:yC) (set_:yF):Wy zer Unit (Bool):=.bn (zAJ 30 [a]) λr23=>.i (!r23) (.k true) (.i (decide (Int.ofNat set_.length>8)) (.k true) (.bn (zzT 1 a set_) λr22=>.k r22))
def zpA (x:zer) (y:Unit):=zp3 x.1 x.2.1
def zzA (n:Nat) (a:yC) (set_:yF):=zA (zpA) default n (a,set_,()) ()
def zI6 (x:zkP) (y:zbP):Nat:=(x.1.length+Int.toNat x.2.2.1+Int.toNat x.2.2.2.1+y.1.length+1000)
def zJx (x:zkD) (y:zbP):Nat:=(x.1.length+Int.toNat x.2.2.1+y.1.length+1000)
def zej:=zbd5 zb5 110 [(12,zOs),(13,zTV),(24,zpl),(27,zPl),(28,zGX)] [] [(12,(kpL [0,5,9])),(18,(kpL [0,5,9,10])),(3,(kpL [0,1])),(5,(kpL [0,1])),(8,(kpL [0,1,5])),(11,(kpL [0,5]))] [(12,1,[]),(12,0,(kpL [4])),(18,3,(kpL [0,5,9])),(18,0,(kpL [4])),(3,0,(kpL [4])),(5,0,(kpL [4])),(8,0,(kpL [4])),(11,0,(kpL [4]))] [(18,spW zKz zK6 (zoz) (.inl default) zJu zI6),(12,spW zKm zK6 (zot) (.inl default) zRs zJx)] [] [(11,spW zKH zK6 (zoi) default z8l λx y=>(1)),(8,spW zMY zK6 (zpH) default z8l λx y=>(1)),(5,spW zMG zbc9 (zpg) default z8l λx y=>(1)),(3,spW zMG zbc9 (zpA) default z8l λx y=>(1))]
theorem zIz:zy zej (lp (body f6) 1):=zm (id:=18) (hl:=rfl)
theorem zIL:zy zej (lp (body f6) 0):=zm (id:=12) (hl:=rfl)
theorem zJW:zIY zej (jn (body f6) 11):=zO3 (id:=11) (hl:=rfl)
theorem zKJ:zIY zej (jn (body f6) 8):=zO3 (id:=8) (hl:=rfl)
theorem zK3:zIY zej (jn (body f6) 5):=zO3 (id:=5) (hl:=rfl)
theorem zLc:zIY zej (jn (body f6) 3):=zO3 (id:=3) (hl:=rfl)
def zA0 (a:yC) (set_:yF):Wy0 (Bool):=.bn (zzA 1 a set_) λr26=>.k r26
def zgW (a:yC) (set_:yF):=(zA0 a set_).fin default
def zNY:AL zb5 zer:=zc (ze (vSl 28)) (zc (ze (vSl 49)) zo)
def znu:=zh zNY λx=>((zgW x.1 x.2.1).1,zZL (zgW x.1 x.2.1).2)
theorem zHi:Sound Tryz.prog zb5 6 znu:=
 z3h (cx':=zej) zGk zPg zbhQ (zbgi ⟨z38,zbau.nodr,zyF.nodr,z3C.nodr,zWF.nodr,trivial⟩) call6 func6 (c:=body f6) (by kernel_rfl) (zXO (l:=[lp (body f6) 0,lp (body f6) 1]) (by kernel_rfl) ⟨zIL,zIz,trivial⟩ (js:=[jn (body f6) 3,jn (body f6) 5,jn (body f6) 8,jn (body f6) 11]) (by kernel_rfl) ⟨zLc,zK3,zKJ,zJW,trivial⟩) (sg:=⟨[.pure],[]⟩)
def trV (v:Value):TT:=.l [.i v.Kind,.i v.Int,trB v.Text]
mutual
def zet:At->TT
 | ⟨k,r,a,f,i,o,b⟩=>.l [.i k,.i r.Table,.i r.Seq,.l (zym a),.i f,.l (zhC i),.i o,trV b]
def zrc:Fc->TT
 | ⟨x,e⟩=>.l [zet x,.i e]
def zbW:yD->List TT
 | []=>[]
 | x::r=>zrc x::zbW r
def zAH:Term->TT
 | ⟨c,fs⟩=>.l [.l (zbW fs),.i c]
def zdF:yC->List TT
 | []=>[]
 | x::r=>zAH x::zdF r
def zym:yA->List TT
 | []=>[]
 | x::r=>.l (zdF x)::zym r
def zbx:Wd->TT
 | ⟨v,a⟩=>.l [trV v,.l (zdF a)]
def zhC:yE->List TT
 | []=>[]
 | x::r=>zbx x::zhC r
end
theorem zyk:∀ l,zbW l=l.map zrc
 | []=>by rw [zbW]; rfl
 | x::r=>by rw [zbW,zyk r]; rfl
theorem zIA:∀ l,zdF l=l.map zAH
 | []=>by rw [zdF]; rfl
 | x::r=>by rw [zdF,zIA r]; rfl
theorem zFI:∀ l,zym l=l.map λx=>.l (zdF x)
 | []=>by rw [zym]; rfl
 | x::r=>by rw [zym,zFI r]; rfl
theorem zmP:∀ l,zhC l=l.map zbx
 | []=>by rw [zhC]; rfl
 | x::r=>by rw [zhC,zmP r]; rfl
theorem zLi:∀ a b:List UInt8,(a.map λx=>TT.i (x.toNat:Int))=(b.map λx=>TT.i (x.toNat:Int))->a=b
 | [],[]=>λ_=>rfl
 | [],_::_=>λh=>by simp at h
 | _::_,[]=>λh=>by simp at h
 | x::a,y::b=>λh=>by
  simp only [List.map,qj,TT.i.injEq] at h;rw [zLi a b h.2,UInt8.toNat_inj.1 (Int.ofNat.inj h.1)]
theorem zbhv {a b:Value} (h:trV a=trV b):a=b:=by
 obtain ⟨k,n,s⟩:=a; obtain ⟨k',n',s'⟩:=b;simp only [trV,trB,TT.l.injEq,qj,TT.i.injEq,and_true] at h;obtain ⟨rfl,rfl,h⟩:=h;have:=zLi _ _ h;obtain ⟨⟨l⟩⟩:=s; obtain ⟨⟨l'⟩⟩:=s';simp only at this; subst this; rfl
mutual
theorem z7U:∀ a b:At,zet a=zet b->a=b
 | ⟨k,r,a,f,i,o,v⟩,⟨k',r',a',f',i',o',v'⟩=>λh=>by
  simp only [zet,TT.l.injEq,qj,TT.i.injEq,and_true] at h;obtain ⟨rfl,h1,h2,h3,rfl,h4,rfl,h5⟩:=h;obtain ⟨t,s⟩:=r; obtain ⟨t',s'⟩:=r';simp only at h1 h2; subst h1 h2;rw [zbal a a' h3,z5N i i' h4,zbhv h5]
theorem zbgu:∀ a b:Fc,zrc a=zrc b->a=b
 | ⟨x,e⟩,⟨x',e'⟩=>λh=>by
  simp only [zrc,TT.l.injEq,qj,TT.i.injEq,and_true] at h;rw [z7U x x' h.1,h.2]
theorem zDq:∀ a b:yD,zbW a=zbW b->a=b
 | [],[]=>λ_=>rfl
 | [],_::_=>λh=>by simp [zbW] at h
 | _::_,[]=>λh=>by simp [zbW] at h
 | x::a,y::b=>λh=>by
  simp only [zbW,qj] at h;rw [zbgu x y h.1,zDq a b h.2]
theorem zbi4:∀ a b:Term,zAH a=zAH b->a=b
 | ⟨c,l⟩,⟨c',l'⟩=>λh=>by
  simp only [zAH,TT.l.injEq,qj,TT.i.injEq,and_true] at h;rw [zDq l l' h.1,h.2]
theorem zIP:∀ a b:yC,zdF a=zdF b->a=b
 | [],[]=>λ_=>rfl
 | [],_::_=>λh=>by simp [zdF] at h
 | _::_,[]=>λh=>by simp [zdF] at h
 | x::a,y::b=>λh=>by
  simp only [zdF,qj] at h;rw [zbi4 x y h.1,zIP a b h.2]
theorem zbal:∀ a b:yA,zym a=zym b->a=b
 | [],[]=>λ_=>rfl
 | [],_::_=>λh=>by simp [zym] at h
 | _::_,[]=>λh=>by simp [zym] at h
 | x::a,y::b=>λh=>by
  simp only [zym,qj,TT.l.injEq] at h;rw [zIP x y h.1,zbal a b h.2]
theorem z8A:∀ a b:Wd,zbx a=zbx b->a=b
 | ⟨c,l⟩,⟨c',l'⟩=>λh=>by
  simp only [zbx,TT.l.injEq,qj,and_true] at h;rw [zbhv h.1,zIP l l' h.2]
theorem z5N:∀ a b:yE,zhC a=zhC b->a=b
 | [],[]=>λ_=>rfl
 | [],_::_=>λh=>by simp [zhC] at h
 | _::_,[]=>λh=>by simp [zhC] at h
 | x::a,y::b=>λh=>by
  simp only [zhC,qj] at h;rw [z8A x y h.1,z5N a b h.2]
end
def zel (P:yC->Prop) (x:At):Prop:=
 (x.Ag.length<=1000000/\x.Items.length<=1000000/\x.Bd.Text.size<=1000000000000)/\(∀ a∈x.Ag,P a)/\∀ w∈x.Items,w.Value.Text.size<=1000000000000/\P w.Ann
def zf3 (P:yC->Prop) (l:yD):Prop:=l.length<=1000000/\∀ f∈l,zel P f.At
def zw:Nat->yC->Prop
 | 0,_=>False
 | n+1,a=>a.length<=1000000/\∀ t∈a,zf3 (zw n) t.Fs
theorem zel.imp {P Q:yC->Prop} (h:∀ a,P a->Q a) {x:At} (hx:zel P x):zel Q x:=⟨hx.1,λa ha=>h a (hx.2.1 a ha),λw hw=>⟨(hx.2.2 w hw).1,h _ (hx.2.2 w hw).2⟩⟩
theorem zw.succ:∀ (n:Nat) (a:yC),zw n a->zw (n+1) a
 | 0,_,h=>h.elim
 | n+1,a,h=>⟨h.1,λt ht=>⟨(h.2 t ht).1,λf hf=>((h.2 t ht).2 f hf).imp (zw.succ n)⟩⟩
theorem zw.mono {n m:Nat} {a:yC} (h:zw n a) (hm:n<=m):zw m a:=by
 obtain ⟨k,rfl⟩:=Nat.exists_eq_add_of_le hm;clear hm;induction k with
 | zero=>exact h
 | succ k ih=>exact zw.succ _ _ ih
def cR (a b:RowID):Int:=if a.Table<b.Table then -1 else if b.Table<a.Table then 1 else if a.Seq<b.Seq then -1 else if b.Seq<a.Seq then 1 else 0
theorem zis:Ord3 cR where
 eq:=λx y=>by
  obtain ⟨a,b⟩:=x; obtain ⟨c,d⟩:=y;simp only [cR,RowID.mk.injEq]
  repeat' split
  all_goals omega
 swap:=λx y=>by
  simp only [cR]
  repeat' split
  all_goals omega
 trans:=λx y z=>by
  simp only [cR]
  repeat' split
  all_goals omega
theorem eqR' (a b:RowID):(a.Table==b.Table&&a.Seq==b.Seq)=decide (a=b):=by
 obtain ⟨p,q⟩:=a; obtain ⟨r,s⟩:=b;by_cases h1:p=r <;>by_cases h2:q=s <;>simp [h1,h2]
theorem eqR (a b:RowID):(a.Table==b.Table&&(a.Seq==b.Seq&&true))=decide (a=b):=by
 rw [Bool.and_true,eqR']
abbrev cS:yF->yF->Int:=zAU cR
theorem zUd:Ord3 cS:=zbkM zis
abbrev nR:yF->yF:=zM5 cR
abbrev fam (l:yB):yB:=zM5 cS (l.map nR)
def sub (a b:yF):Bool:=a.all λx=>decide (x∈b)
theorem zNo {a b:yF}:sub a b=true↔∀ x∈a,x∈b:=by simp [sub]
theorem zVf {l:yB} {z:yF}:z∈fam l↔∃ s∈l,nR s=z:=by
 rw [zEm zUd,List.mem_map]
theorem zbhE (l:yB):zsN cS (fam l):=zES zUd _
theorem zbaD {l:yB} {z:yF} (h:z∈fam l):zsN cR z:=by
 obtain ⟨s,_,rfl⟩:=zVf.1 h;exact zES zis s
theorem zbbk (l:yB):(fam l).length<=l.length:=by
 have:=zOj zUd (l.map nR)
 simpa using this
theorem z9v (l:yF):(nR l).length<=l.length:=zOj zis l
theorem zZY {l:yF} {z:RowID}:z∈nR l↔z∈l:=zEm zis l z
theorem zbhs {l:yF} (h:zsN cR l):nR l=l:=zbi0 zis h
theorem zbcJ {l:yB} {k:Nat} (h:∀ s∈l,s.length<=k):∀ s∈fam l,s.length<=k:=λs hs=>by
 obtain ⟨t,ht,rfl⟩:=zVf.1 hs;exact Nat.le_trans (z9v t) (h t ht)
def zzr (al:yB) (s:yF):Bool:=al.all λt=> !(decide (t≠s)&&sub t s)
theorem zQw {al:yB} {s:yF}:zzr al s=true↔∀ t∈al,(∀ x∈t,x∈s)->t=s:=by
 unfold zzr;rw [List.all_eq_true];constructor
 ·intro h t ht hs;have:=h t ht;rw [zNo.2 hs] at this
  simpa using this
 ·intro h t ht;by_cases hs:sub t s=true
  ·have:=h t ht (zNo.1 hs);simp [this]
  ·simp [hs]
theorem zbiZ {al:yB} (hn:al.Nodup) {i k:Nat} (hi:i<al.length) (hk:k<al.length) (h:al.getD k default=al.getD i default):k=i:=by
 rw [List.getD_eq_getElem?_getD,List.getElem?_eq_getElem hk,List.getD_eq_getElem?_getD,List.getElem?_eq_getElem hi] at h;exact (List.getElem_inj hn).1 h
abbrev zuq (l:yB):yB:=(fam l).filter (zzr (fam l))
abbrev prod (a b:yB):yB:=fam (a.flatMap λx=>b.map λy=>nR (x++y))
theorem z7E {a b:yB} {z:yF}:z∈prod a b↔∃ x∈a,∃ y∈b,nR (x++y)=z:=by
 rw [zVf];constructor
 ·rintro ⟨s,hs,rfl⟩
  obtain ⟨x,hx,hs⟩:=List.mem_flatMap.1 hs;obtain ⟨y,hy,rfl⟩:=List.mem_map.1 hs;exact ⟨x,hx,y,hy,(zbhs (zES zis _)).symm⟩
 ·rintro ⟨x,hx,y,hy,rfl⟩
  exact ⟨nR (x++y),List.mem_flatMap.2 ⟨x,hx,List.mem_map.2 ⟨y,hy,rfl⟩⟩,zbhs (zES zis _)⟩
theorem zbad {a b:yB} {p q:Nat} (ha:∀ x∈a,x.length<=p) (hb:∀ y∈b,y.length<=q):∀ z∈prod a b,z.length<=p+q:=λz hz=>by
 obtain ⟨x,hx,y,hy,rfl⟩:=z7E.1 hz;have:=z9v (x++y);have h1:=ha x hx;have h2:=hb y hy;simp at this; omega
theorem flat_len' (a b:yB):(a.flatMap λx=>b.map λy=>nR (x++y)).length=a.length*b.length:=by
 rw [zH3 (λx=>b.map λy=>nR (x++y)) b.length (λx=>by simp)]
theorem zbeH (a b:yB):(prod a b).length<=a.length*b.length:=by
 have:=zbbk (a.flatMap λx=>b.map λy=>nR (x++y))
 rw [flat_len'] at this;exact this
theorem zbnC {a b:yF} (ha:zsN cR a) (hb:zsN cR b) (h1:∀ x∈a,x∈b) (h2:∀ x∈b,x∈a):a=b:=zR3 zis ha hb λx=>⟨h1 x,h2 x⟩
theorem zbn6 {a b:yF} (ha:zsN cR a) (hb:zsN cR b) (h1:∀ x∈a,x∈b) (hne:a≠b):a.length<b.length:=by
 by_cases h:∀ x∈b,x∈a
 ·exact absurd (zbnC ha hb h1 h) hne
 ·obtain ⟨x,hx⟩:=Classical.not_forall.1 h;obtain ⟨hxb,hxa⟩:=Classical.not_imp.1 hx
  have:=zhk (l:=x::a) (l':=b) (List.nodup_cons.2 ⟨hxa,zFM zis ha⟩) λy hy=>by
   rcases qd.1 hy with rfl | hy
   ·exact hxb
   ·exact h1 y hy
  simp at this; omega
theorem zbcC (al:yB) (hs:∀ s∈al,zsN cR s):∀ (n:Nat) (s:yF),s.length<=n->s∈al->∃ t∈al,zzr al t=true/\∀ x∈t,x∈s
 | n,s,hn,hm=>by
  by_cases h:zzr al s=true
  ·exact ⟨s,hm,h,λx hx=>hx⟩
  ·have h':¬ ∀ t∈al,(∀ x∈t,x∈s)->t=s:=λh'=>h (zQw.2 h')
   obtain ⟨t,ht⟩:=Classical.not_forall.1 h';obtain ⟨htm,ht⟩:=Classical.not_imp.1 ht;obtain ⟨hts,hne⟩:=Classical.not_imp.1 ht;have hlt:=zbn6 (hs t htm) (hs s hm) hts hne;cases n with
   | zero=>omega
   | succ n=>
    obtain ⟨u,hu,hl,hsub⟩:=zbcC al hs n t (by omega) htm
    exact ⟨u,hu,hl,λx hx=>hts x (hsub x hx)⟩
theorem zN6 {l:yB} {z:yF}:z∈zuq l↔z∈fam l/\∀ t∈fam l,(∀ x∈t,x∈z)->t=z:=by
 rw [List.mem_filter,zQw]
theorem zbk4 {l:yB} {s:yF} (h:s∈fam l):∃ t∈zuq l,∀ x∈t,x∈s:=by
 obtain ⟨t,h1,h2,h3⟩:=zbcC (fam l) (λs hs=>zbaD hs) s.length s (Nat.le_refl _) h
 exact ⟨t,List.mem_filter.2 ⟨h1,h2⟩,h3⟩
theorem zbkN (l:yB):zsN cS (zuq l):=(zbhE l).filter _
theorem zWb (l:yB):(zuq l).length<=l.length:=Nat.le_trans (List.length_filter_le _ _) (zbbk l)
theorem zNf {l:yB} {k:Nat} (h:∀ s∈l,s.length<=k):∀ s∈zuq l,s.length<=k:=λs hs=>zbcJ h s (List.mem_filter.1 hs).1
mutual
def ziO:At->yB
 | ⟨k,r,a,_,_,_,_⟩=>if k=2 then (zM4 a).getD 0 default else [[r]]
def zd7:yD->yB->yB
 | [],s=>s
 | ⟨x,_⟩::r,s=>zd7 r (zuq (prod s (ziO x)))
def zfT:yC->yB
 | []=>[]
 | ⟨_,fs⟩::r=>zd7 fs [[]]++zfT r
def zM4:yA->List (yB)
 | []=>[]
 | a::r=>zuq (zfT a)::zM4 r
end
def zcw (a:yC):yB:=zuq (zfT a)
mutual
def zFy:At->Bool
 | ⟨k,_,a,_,_,_,_⟩=>k==0||(k==2&&(z92 a).getD 0 true)
def zt4:yD->Bool
 | []=>true
 | ⟨x,_⟩::r=>zFy x&&zt4 r
def zpW:yC->Bool
 | []=>true
 | ⟨_,fs⟩::r=>zt4 fs&&zpW r
def z92:yA->List Bool
 | []=>[]
 | a::r=>zpW a::z92 r
end
mutual
def zyH (S:yF):At->Prop
 | ⟨k,r,a,_,_,_,_⟩=>if k=2 then (zGl S a).getD 0 False else r∈S
def zjD (S:yF):yD->Prop
 | []=>True
 | ⟨x,_⟩::r=>zyH S x/\zjD S r
def zn5 (S:yF):yC->Prop
 | []=>False
 | ⟨_,fs⟩::r=>zjD S fs\/zn5 S r
def zGl (S:yF):yA->List Prop
 | []=>[]
 | a::r=>zn5 S a::zGl S r
end
def zrC (S:yF) (l:yB):Prop:=∃ s∈l,∀ x∈s,x∈S
theorem z1M (S:yF) (l:yB):zrC S (zuq l)↔zrC S l:=by
 constructor
 ·rintro ⟨s,hs,h⟩
  obtain ⟨u,hu,e⟩:=zVf.1 (zN6.1 hs).1;exact ⟨u,hu,λx hx=>h x (by rw [<- e]; exact zZY.2 hx)⟩
 ·rintro ⟨u,hu,h⟩
  obtain ⟨t,ht,hts⟩:=zbk4 (zVf.2 ⟨u,hu,rfl⟩);exact ⟨t,ht,λx hx=>h x (zZY.1 (hts x hx))⟩
theorem zbja (S:yF) (a b:yB):zrC S (prod a b)↔zrC S a/\zrC S b:=by
 constructor
 ·rintro ⟨s,hs,h⟩
  obtain ⟨x,hx,y,hy,e⟩:=z7E.1 hs;subst e;exact ⟨⟨x,hx,λz hz=>h z (zZY.2 (by simp [hz]))⟩,⟨y,hy,λz hz=>h z (zZY.2 (by simp [hz]))⟩⟩
 ·rintro ⟨⟨x,hx,h1⟩,⟨y,hy,h2⟩⟩
  refine ⟨nR (x++y),z7E.2 ⟨x,hx,y,hy,rfl⟩,λz hz=> ?_⟩
  rcases List.mem_append.1 (zZY.1 hz) with hz | hz
  ·exact h1 z hz
  ·exact h2 z hz
theorem zbgF (S:yF) (a b:yB):zrC S (a++b)↔zrC S a\/zrC S b:=by
 unfold zrC;simp only [List.mem_append];constructor
 ·rintro ⟨s,hs | hs,h⟩
  ·exact .inl ⟨s,hs,h⟩
  ·exact .inr ⟨s,hs,h⟩
 ·rintro (⟨s,hs,h⟩ | ⟨s,hs,h⟩)
  ·exact ⟨s,.inl hs,h⟩
  ·exact ⟨s,.inr hs,h⟩
section
variable (S:yF)
mutual
theorem zbio:∀ x:At,zrC S (ziO x)↔zyH S x
 | ⟨k,r,a,_,_,_,_⟩=>by
  rw [ziO,zyH];by_cases hk:k=2
  ·rw [if_pos hk,if_pos hk];exact z9U a 0
  ·rw [if_neg hk,if_neg hk];unfold zrC;simp
theorem zYe:∀ (l:yD) (s:yB),zrC S (zd7 l s)↔zrC S s/\zjD S l
 | [],s=>by rw [zd7,zjD]; simp
 | ⟨x,e⟩::r,s=>by rw [zd7,zjD,zYe r,z1M,zbja,zbio x,and_assoc]
theorem zSA:∀ a:yC,zrC S (zfT a)↔zn5 S a
 | []=>by rw [zfT,zn5]; simp [zrC]
 | ⟨c,fs⟩::r=>by
  rw [zfT,zn5,zbgF,zYe fs,zSA r];have:zrC S [[]]:=⟨[],by simp,λx hx=>by cases hx⟩
  simp [this]
theorem z9U:∀ (l:yA) (i:Nat),zrC S ((zM4 l).getD i default)↔(zGl S l).getD i False
 | [],i=>by rw [zM4,zGl]; simp [zrC,default]
 | a::r,0=>by
  rw [zM4,zGl];show zrC S (zuq (zfT a))↔zn5 S a;rw [z1M,zSA a]
 | a::r,i+1=>by
  rw [zM4,zGl];show zrC S ((zM4 r).getD i default)↔(zGl S r).getD i False;exact z9U r i
end
theorem zbh9 (a:yC):zrC S (zcw a)↔zn5 S a:=by
 unfold zcw;rw [z1M]; exact zSA S a
end
theorem zbmN {l:yB} {s t:yF} (hs:s∈zuq l) (ht:∀ x∈t,x∈s) (hl:t.length<s.length) (hn:t.Nodup):¬ zrC t (zuq l):=by
 rintro ⟨u,hu,h⟩
 have e:=(zN6.1 hs).2 u (zN6.1 hu).1 λx hx=>ht x (h x hx)
 subst e;have:=zhk (zFM zis (zbaD (zN6.1 hs).1)) h;omega
theorem zbkF (a:yC):zsN cS (zcw a)/\∀ s∈zcw a,zsN cR s:=⟨zbkN _,λs hs=>zbaD (zN6.1 hs).1⟩
def dvF (a b:yD):Bool:=a.all λf=>b.any λg=>decide (f.Exp<=g.Exp)&&decide (f.At=g.At)
theorem zbi7 {α:Type} (e:α->TT) (he:∀ a b,e a=e b->a=b):Ord3 λa b=>zbq (e a) (e b) where
 eq x y:=⟨λh=>he _ _ (zvD _ _ h),λh=>by subst h; exact zRj _⟩
 swap x y:=by rw [zir (e x) (e y)]; omega
 trans x y z h1 h2:=by
  have h3:zbq (e x) (e z)<=0:=zBr _ _ _ (Int.le_of_lt h1) (Int.le_of_lt h2);by_cases h4:zbq (e x) (e z)=0
  ·have h5:=zvD _ _ h4;rw [h5,zir (e y) (e z)] at h1;omega
  ·omega
abbrev zbo4 (l:yD):Prop:=l.Pairwise λf g=>zbq (zet f.At) (zet g.At)<0
def cL (a b:yD):Int:=zbq (.l (zbW a)) (.l (zbW b))
theorem zboY:Ord3 cL:=zbi7 (λa=>.l (zbW a)) λa b h=>zDq _ _ (TT.l.inj h)
structure Canon (a:yC):Prop where
 asc:a.Pairwise λt u=>cL t.Fs u.Fs<0
 fac:∀ t∈a,zbo4 t.Fs
theorem Canon.tail {t:Term} {a:yC} (h:Canon (t::a)):Canon a:=⟨(qi.1 h.asc).2,λx hx=>h.fac x (by simp [hx])⟩
def leS (a b:yC):Bool:=a.all λt=>b.any λu=>dvF u.Fs t.Fs
theorem zbmz {a b:yC}:leS a b=true↔∀ t∈a,∃ u∈b,dvF u.Fs t.Fs=true:=by
 unfold leS;simp only [List.all_eq_true,List.any_eq_true]
def zblZ (a b s:yC):Prop:=∀ l:yD,(∃ t∈s,t.Fs=l)↔(∃ t∈a,t.Fs=l)\/∃ t∈b,t.Fs=l
theorem zblZ.le {a b s c:yC} (h:zblZ a b s):leS s c=true↔leS a c=true/\leS b c=true:=by
 simp only [zbmz];constructor
 ·intro hs;refine ⟨λt ht=> ?_,λt ht=> ?_⟩
  ·obtain ⟨t',ht',e⟩:=(h t.Fs).2 (.inl ⟨t,ht,rfl⟩);rw [<- e]; exact hs t' ht'
  ·obtain ⟨t',ht',e⟩:=(h t.Fs).2 (.inr ⟨t,ht,rfl⟩);rw [<- e]; exact hs t' ht'
 ·rintro ⟨h1,h2⟩ t ht
  rcases (h t.Fs).1 ⟨t,ht,rfl⟩ with ⟨u,hu,e⟩ | ⟨u,hu,e⟩
  ·rw [<- e]; exact h1 u hu
  ·rw [<- e]; exact h2 u hu
theorem zti:∀ {l:yD},zud l->∀ x∈l,zxr x
 | [],_,x,hx=>by cases hx
 | y::r,h,x,hx=>by
  unfold zud at h;rcases qd.1 hx with rfl | hx
  ·exact h.1
  ·exact zti h.2 x hx
theorem zwY:∀ {l:yC},zhV l->∀ x∈l,zC6 x
 | [],_,x,hx=>by cases hx
 | y::r,h,x,hx=>by
  unfold zhV at h;rcases qd.1 hx with rfl | hx
  ·exact h.1
  ·exact zwY h.2 x hx
theorem zlc:∀ {l:yA},zyy l->∀ x∈l,zhV x/\x.length<=zbo
 | [],_,x,hx=>by cases hx
 | y::r,h,x,hx=>by
  unfold zyy at h;rcases qd.1 hx with rfl | hx
  ·exact h.1
  ·exact zlc h.2 x hx
theorem zmV:∀ {l:yE},zte l->∀ x∈l,zXk x.Value/\zhV x.Ann/\x.Ann.length<=zbo
 | [],_,x,hx=>by cases hx
 | y::r,h,x,hx=>by
  unfold zte at h;rcases qd.1 hx with rfl | hx
  ·have:=h.1; unfold zIw at this; exact ⟨this.1,this.2.1,this.2.2⟩
  ·exact zmV h.2 x hx
theorem zBm {t:Term} (h:zC6 t):wf2 t.Cf/\zud t.Fs/\t.Fs.length<=zbo:=by
 unfold zC6 at h; exact ⟨h.1,h.2.1,h.2.2⟩
theorem zv0 {t:Fc} (h:zxr t):zjk t.At/\wf3 t.Exp:=by
 unfold zxr at h; exact h
theorem zBF {x:At} (h:zjk x):(zyy x.Ag/\x.Ag.length<=zbo)/\(zte x.Items/\x.Items.length<=zbo)/\zXk x.Bd/\wf3 x.Kind/\z0k x.Row/\wf3 x.Func/\wf3 x.Op:=by
 obtain ⟨k,r,a,f,i,o,b⟩:=x; unfold zjk at h; exact ⟨h.2.2.1,h.2.2.2.2.1,h.2.2.2.2.2.2,h.1,h.2.1,h.2.2.2.1,h.2.2.2.2.2.1⟩
theorem zmE {z:Int} (h0: -4611686018427387904<=z) (h:z<4611686018427387904):IntKind.i64.wrap z=z:=z3B (by omega) (by omega)
mutual
def zfq:At->Nat
 | ⟨_,_,a,_,i,_,b⟩=>i.length+a.length+b.Text.size+zqd a+zkf i
def zZ:yD->Nat
 | []=>0
 | ⟨x,_⟩::r=>zfq x+zZ r
def zbw:yC->Nat
 | []=>0
 | ⟨_,fs⟩::r=>1+fs.length+zZ fs+zbw r
def zqd:yA->Nat
 | []=>0
 | a::r=>zbw a+zqd r
def zkf:yE->Nat
 | []=>0
 | ⟨v,a⟩::r=>v.Text.size+zbw a+zkf r
end
theorem zFf (x:At):zfq x=x.Items.length+x.Ag.length+x.Bd.Text.size+zqd x.Ag+zkf x.Items:=by cases x; rw [zfq]
theorem zlu (f:Fc) (r:yD):zZ (f::r)=zfq f.At+zZ r:=by cases f; rw [zZ]
theorem zit (t:Term) (r:yC):zbw (t::r)=1+t.Fs.length+zZ t.Fs+zbw r:=by cases t; rw [zbw]
theorem zA1 (a:yC) (r:yA):zqd (a::r)=zbw a+zqd r:=by rw [zqd]
theorem zLe (w:Wd) (r:yE):zkf (w::r)=w.Value.Text.size+zbw w.Ann+zkf r:=by cases w; rw [zkf]
theorem z5h:zqd []=0:=by rw [zqd]
theorem zbeG:zkf []=0:=by rw [zkf]
theorem zbaV:zZ []=0:=by rw [zZ]
theorem z8Q:zbw []=0:=by rw [zbw]
section
variable (g:yC->Int->Int->Bool×Int) (a:yC) (limit d:Nat) (hl:limit<=1000) (hd:d<=100) (B:Nat) (hB:B<=1152921504606846976) (P:yC->Prop)
include hl hd hB
theorem w14 (x:At) (i k:Int) (hlen:x.Ag.length<=zbo) (hg:∀ y∈x.Ag,∀ l:Nat,l<=1000->∃ w:Nat,g y l d=(true,(w:Int))/\w<=B/\(w<=l->P y/\zbw y<=w)):
  ∀ (fuel j n:Nat),x.Ag.length<j+fuel->j<=x.Ag.length->n<=2305843009213693952->∃ n':Nat,zA4 g fuel a limit (d+1:Nat) n i k j x=(true,(a,(limit:Int),((d+1:Nat):Int),(n':Int),i,k,x))/\n<=n'/\n'<=max n (limit+B)/\(n'<=limit->(∀ y∈x.Ag.drop j,P y)/\n+zqd (x.Ag.drop j)<=n')
 | 0,j,n,h1,h2,h3=>by omega
 | fuel+1,j,n,h1,h2,h3=>by
  show ∃ n':Nat,(zA9 g a limit (d+1:Nat) n i k j x).ev (λx y=>zA4 g fuel x.1 x.2.1 x.2.2.1 x.2.2.2.1 x.2.2.2.2.1 x.2.2.2.2.2.1 x.2.2.2.2.2.2.2.1 y.1) (λr=>(true,r)) (false,default)=_/\_
  unfold zA9;have hml:zbo=140737488351232:=rfl;by_cases hj:j<x.Ag.length
  ·by_cases hn:n<=limit
   ·have e1:IntKind.i64.wrap ((limit:Int) - (n:Int))=((limit - n:Nat):Int):=by rw [zmE (by omega) (by omega)]; omega
    obtain ⟨w,hw,hwB,hwP⟩:=hg _ (zI hj) (limit - n) (by omega)
    have ed:IntKind.i64.wrap (((d+1:Nat):Int) - 1)=(d:Int):=by rw [zmE (by omega) (by omega)]; omega
    simp only [Wy.ev_i,Wy.ev_k,Wy.ev_h,Wy.ev_bn,Wy.ev_d,tT,hj,zqJ,hn,e1,ed,hw];have e3:IntKind.i64.wrap ((n:Int)+(w:Int))=((n+w:Nat):Int):=by rw [zmE (by omega) (by omega)]; omega
    rw [e3,zJ (by omega)]
    obtain ⟨n',h4,h5,h6,h7⟩:=w14 x i k hlen hg fuel (j+1) (n+w) (by omega) (by omega) (by omega)
    refine ⟨n',h4,by omega,by omega,λhn'=> ?_⟩
    obtain ⟨h8,h9⟩:=h7 hn';obtain ⟨p1,p2⟩:=hwP (by omega)
    rw [zY hj,zA1];refine ⟨λy hy=> ?_,by omega⟩
    rcases qd.1 hy with rfl | hy
    ·exact p1
    ·exact h8 y hy
   ·simp only [Wy.ev_i,Wy.ev_k,Wy.ev_h,Wy.ev_bn,Wy.ev_d,tT,hj,zqJ,hn];exact ⟨n,rfl,Nat.le_refl _,by omega,λh=>absurd h hn⟩
  ·simp only [Wy.ev_i,Wy.ev_k,Wy.ev_h,Wy.ev_bn,Wy.ev_d,tT,hj];exact ⟨n,rfl,Nat.le_refl _,by omega,λ_=>by rw [zce hj,z5h]; exact ⟨λy hy=>(by cases hy),Nat.le_refl _⟩⟩
theorem w18 (x:At) (i k:Int) (hlen:x.Items.length<=zbo) (hg:∀ y∈x.Items,y.Value.Text.size<=zbo/\∀ l:Nat,l<=1000->∃ w:Nat,g y.Ann l d=(true,(w:Int))/\w<=B/\(w<=l->P y.Ann/\zbw y.Ann<=w)):
  ∀ (fuel j n:Nat),x.Items.length<j+fuel->j<=x.Items.length->n<=2305843009213693952->∃ n':Nat,zAE g fuel a limit (d+1:Nat) n i k j x=(true,(a,(limit:Int),((d+1:Nat):Int),(n':Int),i,k))/\n<=n'/\n'<=max n (limit+zbo+B)/\(n'<=limit->(∀ y∈x.Items.drop j,y.Value.Text.size<=1000/\P y.Ann)/\n+zkf (x.Items.drop j)<=n')
 | 0,j,n,h1,h2,h3=>by omega
 | fuel+1,j,n,h1,h2,h3=>by
  show ∃ n':Nat,(zAj g a limit (d+1:Nat) n i k j x).ev (λx y=>zAE g fuel x.1 x.2.1 x.2.2.1 x.2.2.2.1 x.2.2.2.2.1 x.2.2.2.2.2.1 x.2.2.2.2.2.2.2.1 y.1) (λr=>(true,r)) (false,default)=_/\_
  unfold zAj;have hml:zbo=140737488351232:=rfl;by_cases hj:j<x.Items.length
  ·by_cases hn:n<=limit
   ·have e1:IntKind.i64.wrap ((limit:Int) - (n:Int))=((limit - n:Nat):Int):=by rw [zmE (by omega) (by omega)]; omega
    obtain ⟨ht,hgy⟩:=hg _ (zI hj);obtain ⟨w,hw,hwB,hwP⟩:=hgy (limit - n) (by omega)
    have ed:IntKind.i64.wrap (((d+1:Nat):Int) - 1)=(d:Int):=by rw [zmE (by omega) (by omega)]; omega
    simp only [Wy.ev_i,Wy.ev_k,Wy.ev_h,Wy.ev_bn,Wy.ev_d,tT,hj,zqJ,hn,e1,ed,hw];generalize hsz:(x.Items.getD j default).Value.Text.size=sz at *;have e3:IntKind.i64.wrap (IntKind.i64.wrap ((n:Int)+(sz:Int))+(w:Int))=((n+sz+w:Nat):Int):=by rw [zmE (z:=(n:Int)+(sz:Int)) (by omega) (by omega),zmE (by omega) (by omega)]; omega
    rw [e3,zJ (by omega)]
    obtain ⟨n',h4,h5,h6,h7⟩:=w18 x i k hlen hg fuel (j+1) (n+sz+w) (by omega) (by omega) (by omega)
    refine ⟨n',h4,by omega,by omega,λhn'=> ?_⟩
    obtain ⟨h8,h9⟩:=h7 hn';obtain ⟨p1,p2⟩:=hwP (by omega)
    rw [zY hj,zLe];refine ⟨λy hy=> ?_,by omega⟩
    rcases qd.1 hy with rfl | hy
    ·exact ⟨by omega,p1⟩
    ·exact h8 y hy
   ·simp only [Wy.ev_i,Wy.ev_k,Wy.ev_h,Wy.ev_bn,Wy.ev_d,tT,hj,zqJ,hn];exact ⟨n,rfl,Nat.le_refl _,by omega,λh=>absurd h hn⟩
  ·simp only [Wy.ev_i,Wy.ev_k,Wy.ev_h,Wy.ev_bn,Wy.ev_d,tT,hj];exact ⟨n,rfl,Nat.le_refl _,by omega,λ_=>by rw [zce hj,zbeG]; exact ⟨λy hy=>(by cases hy),Nat.le_refl _⟩⟩
theorem w9 (i:Nat) (hi:i<a.length) (hla:(a.getD i default).Fs.length<=zbo) (hg:∀ f∈(a.getD i default).Fs,f.At.Ag.length<=zbo/\f.At.Items.length<=zbo/\f.At.Bd.Text.size<=zbo/\(∀ y∈f.At.Ag,∀ l:Nat,l<=1000->∃ w:Nat,g y l d=(true,(w:Int))/\w<=B/\(w<=l->P y/\zbw y<=w))/\
   ∀ y∈f.At.Items,y.Value.Text.size<=zbo/\∀ l:Nat,l<=1000->∃ w:Nat,g y.Ann l d=(true,(w:Int))/\w<=B/\(w<=l->P y.Ann/\zbw y.Ann<=w)):
  ∀ (fuel k n:Nat),(a.getD i default).Fs.length<k+fuel->k<=(a.getD i default).Fs.length->n<=2305843009213693952->∃ n':Nat,zCz g fuel a limit (d+1:Nat) n i k=(true,(a,(limit:Int),((d+1:Nat):Int),(n':Int),(i:Int)))/\n<=n'/\n'<=max n (limit+4*zbo+B)/\
   (n'<=limit->(∀ f∈(a.getD i default).Fs.drop k,(f.At.Ag.length<=1000/\f.At.Items.length<=1000/\f.At.Bd.Text.size<=1000)/\(∀ y∈f.At.Ag,P y)/\∀ y∈f.At.Items,y.Value.Text.size<=1000/\P y.Ann)/\n+zZ ((a.getD i default).Fs.drop k)<=n')
 | 0,k,n,h1,h2,h3=>by omega
 | fuel+1,k,n,h1,h2,h3=>by
  show ∃ n':Nat,(zCB g a limit (d+1:Nat) n i k).ev (λx y=>zCz g fuel x.1 x.2.1 x.2.2.1 x.2.2.2.1 x.2.2.2.2.1 x.2.2.2.2.2.1) (λr=>(true,r)) (false,default)=_/\_
  unfold zCB;have hml:zbo=140737488351232:=rfl;by_cases hk:k<(a.getD i default).Fs.length
  ·by_cases hn:n<=limit
   ·simp only [Wy.ev_i,Wy.ev_k,Wy.ev_h,Wy.ev_bn,Wy.ev_d,tT,hi,hk,zqJ,hn,At.eta];obtain ⟨ha1,ha2,ha3,hgA,hgI⟩:=hg _ (zI hk);generalize hf:((a.getD i default).Fs.getD k default)=f at *
    have e0:IntKind.i64.wrap (IntKind.i64.wrap (IntKind.i64.wrap ((n:Int)+(f.At.Items.length:Int))+(f.At.Ag.length:Int))+(f.At.Bd.Text.size:Int))=((n+f.At.Items.length+f.At.Ag.length+f.At.Bd.Text.size:Nat):Int):=by
     rw [zmE (z:=(n:Int)+(f.At.Items.length:Int)) (by omega) (by omega),zmE (z:=(n:Int)+(f.At.Items.length:Int)+(f.At.Ag.length:Int)) (by omega) (by omega),zmE (by omega) (by omega)]; omega
    rw [e0];obtain ⟨n1,q1,q2,q3,q4⟩:=w14 g a limit d hl hd B hB P f.At i k ha1 hgA (a.length+limit+(d+1)+((n+f.At.Items.length+f.At.Ag.length+f.At.Bd.Text.size:Nat):Int).toNat +i+k+Int.toNat 0+f.At.Ag.length+f.At.Items.length+1) 0 (n+f.At.Items.length+f.At.Ag.length+f.At.Bd.Text.size) (by omega) (by omega) (by omega)
    rw [show ((0:Nat):Int)=(0:Int) from rfl] at q1
    rw [q1];simp only [cond_true,At.eta,Int.toNat_natCast];obtain ⟨n2,r1,r2,r3,r4⟩:=w18 g a limit d hl hd B hB P f.At i k ha2 hgI (a.length+limit+(d+1)+n1+i+k+Int.toNat 0+f.At.Ag.length+f.At.Items.length+1) 0 n1 (by omega) (by omega) (by omega)
    rw [show ((0:Nat):Int)=(0:Int) from rfl] at r1
    rw [r1];simp only [cond_true];rw [zJ (by omega)]
    obtain ⟨n',h4,h5,h6,h7⟩:=w9 i hi hla hg fuel (k+1) n2 (by omega) (by omega) (by omega)
    refine ⟨n',h4,by omega,by omega,λhn'=> ?_⟩
    obtain ⟨h8,h9⟩:=h7 hn';obtain ⟨q5,q6⟩:=q4 (by omega)
    obtain ⟨r5,r6⟩:=r4 (by omega)
    rw [List.drop_zero] at q5 q6 r5 r6;rw [zY hk,zlu,hf,zFf];refine ⟨λy hy=> ?_,by omega⟩
    rcases qd.1 hy with rfl | hy
    ·exact ⟨⟨by omega,by omega,by omega⟩,q5,r5⟩
    ·exact h8 y hy
   ·simp only [Wy.ev_i,Wy.ev_k,Wy.ev_h,Wy.ev_bn,Wy.ev_d,tT,hi,hk,zqJ,hn];exact ⟨n,rfl,Nat.le_refl _,by omega,λh=>absurd h hn⟩
  ·simp only [Wy.ev_i,Wy.ev_k,Wy.ev_h,Wy.ev_bn,Wy.ev_d,tT,hi,hk];exact ⟨n,rfl,Nat.le_refl _,by omega,λ_=>by rw [zce hk,zbaV]; exact ⟨λy hy=>(by cases hy),Nat.le_refl _⟩⟩
theorem w5 (hla:∀ t∈a,t.Fs.length<=zbo) (hg:∀ t∈a,∀ f∈t.Fs,f.At.Ag.length<=zbo/\f.At.Items.length<=zbo/\f.At.Bd.Text.size<=zbo/\(∀ y∈f.At.Ag,∀ l:Nat,l<=1000->∃ w:Nat,g y l d=(true,(w:Int))/\w<=B/\(w<=l->P y/\zbw y<=w))/\
   ∀ y∈f.At.Items,y.Value.Text.size<=zbo/\∀ l:Nat,l<=1000->∃ w:Nat,g y.Ann l d=(true,(w:Int))/\w<=B/\(w<=l->P y.Ann/\zbw y.Ann<=w)) (hlen:a.length<=zbo):
  ∀ (fuel i n:Nat),a.length<i+fuel->i<=a.length->n<=2305843009213693952->∃ n':Nat,zCm g fuel a limit (d+1:Nat) n i=(true,(n':Int))/\n<=n'/\n'<=max n (limit+6*zbo+B)/\
   (n'<=limit->(n+(a.length - i)<=n'/\n+zbw (a.drop i)<=n')/\∀ t∈a.drop i,t.Fs.length<=1000/\∀ f∈t.Fs,(f.At.Ag.length<=1000/\f.At.Items.length<=1000/\f.At.Bd.Text.size<=1000)/\(∀ y∈f.At.Ag,P y)/\∀ y∈f.At.Items,y.Value.Text.size<=1000/\P y.Ann)
 | 0,i,n,h1,h2,h3=>by omega
 | fuel+1,i,n,h1,h2,h3=>by
  show ∃ n':Nat,(zCM g a limit (d+1:Nat) n i).ev (λx y=>zCm g fuel x.1 x.2.1 x.2.2.1 x.2.2.2.1 x.2.2.2.2.1) (λr=>(true,r)) (false,default)=_/\_
  unfold zCM;have hml:zbo=140737488351232:=rfl;by_cases hi:i<a.length
  ·by_cases hn:n<=limit
   ·simp only [Wy.ev_i,Wy.ev_k,Wy.ev_h,Wy.ev_bn,Wy.ev_d,tT,hi,zqJ,hn];have hla':=hla _ (zI hi)
    have e0:IntKind.i64.wrap (IntKind.i64.wrap ((n:Int)+1)+((a.getD i default).Fs.length:Int))=((n+1+(a.getD i default).Fs.length:Nat):Int):=by
     rw [zJ (by omega),zmE (by omega) (by omega)]; omega
    rw [e0];obtain ⟨n1,q1,q2,q3,q4⟩:=w9 g a limit d hl hd B hB P i hi hla' (hg _ (zI hi)) (a.length+limit+(d+1)+((n+1+(a.getD i default).Fs.length:Nat):Int).toNat +i+Int.toNat 0+1) 0 (n+1+(a.getD i default).Fs.length) (by omega) (by omega) (by omega)
    rw [show ((0:Nat):Int)=(0:Int) from rfl] at q1
    rw [q1];simp only [cond_true];rw [zJ (by omega)]
    obtain ⟨n',h4,h5,h6,h7⟩:=w5 hla hg hlen fuel (i+1) n1 (by omega) (by omega) (by omega)
    refine ⟨n',h4,by omega,by omega,λhn'=> ?_⟩
    obtain ⟨⟨h8,h10⟩,h9⟩:=h7 hn';obtain ⟨q5,q6⟩:=q4 (by omega)
    rw [List.drop_zero] at q5 q6;rw [zY hi,zit];refine ⟨⟨by omega,by omega⟩,λy hy=> ?_⟩
    rcases qd.1 hy with rfl | hy
    ·exact ⟨by omega,q5⟩
    ·exact h9 y hy
   ·simp only [Wy.ev_i,Wy.ev_k,Wy.ev_h,Wy.ev_bn,Wy.ev_d,tT,hi,zqJ,hn];exact ⟨n,rfl,Nat.le_refl _,by omega,λh=>absurd h hn⟩
  ·simp only [Wy.ev_i,Wy.ev_k,Wy.ev_h,Wy.ev_bn,Wy.ev_d,tT,hi];exact ⟨n,rfl,Nat.le_refl _,by omega,λ_=>by rw [zce hi,z8Q]; exact ⟨⟨by omega,Nat.le_refl _⟩,λy hy=>(by cases hy)⟩⟩
end
theorem zbcp:∀ (d N:Nat),d<N->d<=12->∀ (l:Nat),l<=1000->∀ a,zhV a->a.length<=zbo->∃ w:Nat,zqz N a l d=(true,(w:Int))/\w<=(d+1)*4503599627370496/\(w<=l->zw d a/\zbw a<=w)
 | _,0,h,_,_,_,_,_,_=>by omega
 | 0,N+1,_,_,l,hl,a,hw,hlen=>by
  rw [zLy];unfold zwx zD3;refine ⟨l+1, ?_,by omega,λh=>by omega⟩
  simp only [Wy.fin_i,Wy.fin_k];rw [zJ (by omega)]; rfl
 | d+1,N+1,hN,hd,l,hl,a,hw,hlen=>by
  rw [zLy];unfold zwx zD3;have hml:zbo=140737488351232:=rfl;have ih:=λy (h1:zhV y) (h2:y.length<=zbo) l hl=>zbcp d N (by omega) (by omega) l hl y h1 h2
  have e0:(((d+1:Nat):Int)==(0:Int))=false:=by
   rw [beq_eq_false_iff_ne]; omega
  obtain ⟨n',h1,h2,h3,h4⟩:=w5 (zqz N) a l d hl (by omega) ((d+1)*4503599627370496) (by omega) (zw d) (λt ht=>(zBm (zwY hw t ht)).2.2) (λt ht f hf=>by
   have hx:=zBF (zv0 (zti (zBm (zwY hw t ht)).2.1 f hf)).1;refine ⟨hx.1.2,hx.2.1.2,hx.2.2.1.2.2,λy hy l hl=> ?_,λy hy=> ?_⟩
   ·have:=zlc hx.1.1 y hy;exact ih y this.1 this.2 l hl
   ·have:=zmV hx.2.1.1 y hy;exact ⟨this.1.2.2,λl hl=>ih y.Ann this.2.1 this.2.2 l hl⟩) hlen (a.length+l+(d+1)+Int.toNat 0+Int.toNat 0+1) 0 0 (by omega) (by omega) (by omega)
  rw [show ((0:Nat):Int)=(0:Int) from rfl] at h1
  refine ⟨n', ?_,by omega,λhn=> ?_⟩
  ·simp only [Wy.fin_i,Wy.fin_k,Wy.fin_bn,e0,cond_false,Int.toNat_natCast,h1,cond_true]
  ·obtain ⟨⟨h5,h12⟩,h6⟩:=h4 hn;rw [List.drop_zero] at h12;refine ⟨⟨by omega,λt ht=> ?_⟩,by omega⟩
   obtain ⟨h7,h8⟩:=h6 t (by simpa using ht)
   refine ⟨by omega,λf hf=> ?_⟩
   obtain ⟨h9,h10,h11⟩:=h8 f hf;exact ⟨⟨by omega,by omega,by omega⟩,h10,λw hw=>⟨by have:=(h11 w hw).1; omega,(h11 w hw).2⟩⟩
theorem zbfA (limit:Nat) (hl:limit<=1000) (l:yA) (hll:l.length<=1000) (hw:∀ a∈l,zhV a/\a.length<=zbo):∀ (n i:Nat),l.length<i+n->i<=l.length->∃ r,zNr n limit l i=(true,r)/\((r=.inl false)\/(r=.inr ()/\∀ a∈l.drop i,zw 12 a/\zbw a<=limit))
 | 0,i,h1,h2=>by omega
 | n+1,i,h1,h2=>by
  show ∃ r,(zOt limit l i).ev (λx y=>zNr n x.1 x.2.1 x.2.2.1) (λr=>(true,r)) (false,.inl default)=(true,r)/\_
  unfold zOt;by_cases hi:i<l.length
  ·obtain ⟨w,q1,q2,q3⟩:=zbcp 12 1000 (by omega) (by omega) limit hl _ (hw _ (zI hi)).1 (hw _ (zI hi)).2
   have q1':zO5 (l.getD i default) (limit:Int) 12=(true,(w:Int)):=q1;simp only [Wy.ev_i,Wy.ev_k,Wy.ev_h,Wy.ev_bn,Wy.ev_d,tT,hi,q1',zwj];by_cases hg:limit<w
   ·simp only [hg,decide_true,cond_true];exact ⟨_,rfl,.inl rfl⟩
   ·simp only [hg,decide_false,cond_false];rw [zJ (by omega)]
    obtain ⟨r,h3,h4⟩:=zbfA limit hl l hll hw n (i+1) (by omega) (by omega)
    refine ⟨r,h3, ?_⟩;rcases h4 with h4 | ⟨h4,h5⟩
    ·exact .inl h4
    ·refine .inr ⟨h4,λa ha=> ?_⟩
     rw [zY hi] at ha;rcases qd.1 ha with rfl | ha
     ·exact ⟨(q3 (by omega)).1,by have:=(q3 (by omega)).2; omega⟩
     ·exact h5 a ha
  ·simp only [Wy.ev_i,Wy.ev_k,Wy.ev_h,Wy.ev_bn,Wy.ev_d,tT,hi];exact ⟨_,rfl,.inr ⟨rfl,λa ha=>by rw [zce hi] at ha; cases ha⟩⟩
theorem zbod (limit:Nat) (hl:limit<=1000) (l:yA) (hll:l.length<=1000) (hw:∀ a∈l,zhV a/\a.length<=zbo):∃ b,zAJ limit l=(true,b)/\(b=true->∀ a∈l,zw 12 a/\zbw a<=limit):=by
 unfold zAJ z5I;obtain ⟨r,h1,h2⟩:=zbfA limit hl l hll hw (limit+l.length+Int.toNat 0+1) 0 (by omega) (by omega)
 rw [show ((0:Nat):Int)=(0:Int) from rfl] at h1
 rw [Wy.fin_bn];simp only [Int.toNat_natCast,h1,cond_true];rcases h2 with rfl | ⟨rfl,h2⟩
 ·exact ⟨false,rfl,λh=>by cases h⟩
 ·exact ⟨true,rfl,λ_ a ha=>h2 a (by simpa using ha)⟩
mutual
def zkv:At->Nat
 | ⟨_,_,a,_,i,_,_⟩=>zfp a+zdU i
def zcc:yD->Nat
 | []=>0
 | ⟨x,_⟩::r=>zkv x+zcc r
def zX:yC->Nat
 | []=>0
 | ⟨_,fs⟩::r=>1+fs.length+zcc fs+zX r
def zfp:yA->Nat
 | []=>0
 | a::r=>zX a+zfp r
def zdU:yE->Nat
 | []=>0
 | ⟨_,a⟩::r=>1+zX a+zdU r
end
theorem ziU (x:At):zkv x=zfp x.Ag+zdU x.Items:=by cases x; rw [zkv]
theorem zeF (f:Fc) (r:yD):zcc (f::r)=zkv f.At+zcc r:=by cases f; rw [zcc]
theorem zjN (t:Term) (r:yC):zX (t::r)=1+t.Fs.length+zcc t.Fs+zX r:=by cases t; rw [zX]
theorem zh2 (a:yC) (r:yA):zfp (a::r)=zX a+zfp r:=by rw [zfp]
theorem zj4 (w:Wd) (r:yE):zdU (w::r)=1+zX w.Ann+zdU r:=by cases w; rw [zdU]
theorem zmY:zfp []=0:=by rw [zfp]
theorem zlt:zdU []=0:=by rw [zdU]
theorem zmJ:zcc []=0:=by rw [zcc]
theorem zBx:zX []=0:=by rw [zX]
theorem z8a (l:yA):∀ n:Nat,l.foldl (λs t=>s+zX t) n=n+zfp l:=by
 induction l with
 | nil=>intro n; rw [zmY]; rfl
 | cons a r ih=>intro n; rw [List.foldl_cons,ih,zh2]; omega
theorem z5w (l:yE):∀ n:Nat,l.foldl (λs t=>s+1+zX t.Ann) n=n+zdU l:=by
 induction l with
 | nil=>intro n; rw [zlt]; rfl
 | cons a r ih=>intro n; rw [List.foldl_cons,ih,zj4]; omega
theorem zbdV (l:yD):∀ n:Nat,l.foldl (λs t=>s+zkv t.At) n=n+zcc l:=by
 induction l with
 | nil=>intro n; rw [zmJ]; rfl
 | cons a r ih=>intro n; rw [List.foldl_cons,ih,zeF]; omega
theorem zbcI (l:yC):∀ n:Nat,l.foldl (λs t=>s+1+t.Fs.length+zcc t.Fs) n=n+zX l:=by
 induction l with
 | nil=>intro n; rw [zBx]; rfl
 | cons a r ih=>intro n; rw [List.foldl_cons,ih,zjN]; omega
theorem zus {n m:Nat} (h:n+m<=4611686018427387904):IntKind.i64.wrap ((n:Int)+(m:Int))=((n+m:Nat):Int):=by
 rw [z3B (by omega) (by omega)]; omega
theorem zgY {i:Nat} (h:i<4611686018427387904):IntKind.i64.wrap ((i:Int)+1)=((i+1:Nat):Int):=zJ h
section
variable (g:yC->Bool×Int)
theorem zbmP (l:yA) (hl:l.length<=1000000) (hg:∀ y∈l,g y=(true,(zX y:Int))) (t12:yC) (t13 t14:Int) (t25:yD) (t26 t27:Int) (f:Fc) (fuel n:Nat) (hf:l.length<fuel) (hn:n+zfp l<=4611686018427387904):
  zEM g fuel n t12 t13 t14 t25 t26 t27 l l.length 0 f=(true,(((n+zfp l:Nat):Int),t12,t13,t14,t25,t26,t27,f)):=by
 have h:=zeu (W:=zwk g) (z:=default) (l:=l) (λi (n:Nat)=>((n:Int),(),t12,t13,t14,t25,t26,t27,l,(l.length:Int),(i:Int),())) (λ_ _=>(f,())) (λy n=>.inl (n+zX y)) (λn=>((n:Int),t12,t13,t14,t25,t26,t27,f)) (λi n=>n+zfp (l.drop i)<=4611686018427387904)
  (λi n hi hI=>.inl ⟨_,rfl,by rw [zY hi,zh2] at hI; omega,λH K D=>by
   rw [zY hi,zh2] at hI;show (zkz g n t12 t13 t14 t25 t26 t27 l l.length i f).ev H K D=_;unfold zkz;simp only [Wy.ev_i,Wy.ev_k,Wy.ev_h,Wy.ev_bn,Wy.ev_d,tT,hi,hg _ (zI hi)];rw [zus (by omega),zgY (by omega)]⟩)
  (λn hI H K D=>by
   show (zkz g n t12 t13 t14 t25 t26 t27 l l.length l.length f).ev H K D=_;unfold zkz;simp only [Wy.ev_i,Wy.ev_k,tT,Nat.lt_irrefl]) fuel 0 n (by omega) (Nat.zero_le _) (by simpa using hn)
 rw [List.drop_zero,zex,z8a] at h;exact h
theorem zbm8 (l:yE) (hl:l.length<=1000000) (hg:∀ y∈l,g y.Ann=(true,(zX y.Ann:Int))) (t12:yC) (t13 t14:Int) (t25:yD) (t26 t27:Int) (fuel n:Nat) (hf:l.length<fuel) (hn:n+zdU l<=4611686018427387904):
  zEI g fuel n t12 t13 t14 t25 t26 t27 l l.length 0=(true,(((n+zdU l:Nat):Int),t12,t13,t14,t25,t26,t27)):=by
 have h:=zeu (W:=zvF g) (z:=default) (l:=l) (λi (n:Nat)=>((n:Int),t12,t13,t14,t25,t26,t27,l,(l.length:Int),(i:Int),())) (λ_ _=>()) (λy n=>.inl (n+1+zX y.Ann)) (λn=>((n:Int),t12,t13,t14,t25,t26,t27)) (λi n=>n+zdU (l.drop i)<=4611686018427387904)
  (λi n hi hI=>.inl ⟨_,rfl,by rw [zY hi,zj4] at hI; omega,λH K D=>by
   rw [zY hi,zj4] at hI;show (zkj g n t12 t13 t14 t25 t26 t27 l l.length i).ev H K D=_;unfold zkj;simp only [Wy.ev_i,Wy.ev_k,Wy.ev_h,Wy.ev_bn,Wy.ev_d,tT,hi,hg _ (zI hi)];rw [zgY (by omega),show (1:Int)=((1:Nat):Int) from rfl,zus (by omega),zus (by omega), <- Nat.add_assoc]⟩)
  (λn hI H K D=>by
   show (zkj g n t12 t13 t14 t25 t26 t27 l l.length l.length).ev H K D=_;unfold zkj;simp only [Wy.ev_i,Wy.ev_k,tT,Nat.lt_irrefl]) fuel 0 n (by omega) (Nat.zero_le _) (by simpa using hn)
 rw [List.drop_zero,zex,z5w] at h;exact h
theorem zbnm (l:yD) (hl:l.length<=1000000) (hg:∀ f∈l,(f.At.Ag.length<=1000000/\f.At.Items.length<=1000000)/\(∀ y∈f.At.Ag,g y=(true,(zX y:Int)))/\∀ y∈f.At.Items,g y.Ann=(true,(zX y.Ann:Int))) (t12:yC) (t13 t14:Int) (fuel n:Nat) (hf:l.length<fuel) (hn:n+zcc l<=4611686018427387904):
  zFS g fuel n t12 t13 t14 l l.length 0=(true,(((n+zcc l:Nat):Int),t12,t13,t14)):=by
 have h:=zeu (W:=zxY g) (z:=default) (l:=l) (λi (n:Nat)=>((n:Int),t12,t13,t14,l,(l.length:Int),(i:Int),())) (λ_ _=>()) (λy n=>.inl (n+zkv y.At)) (λn=>((n:Int),t12,t13,t14)) (λi n=>n+zcc (l.drop i)<=4611686018427387904)
  (λi n hi hI=>.inl ⟨_,rfl,by rw [zY hi,zeF] at hI; omega,λH K D=>by
   rw [zY hi,zeF,ziU] at hI;obtain ⟨⟨h1,h2⟩,h3,h4⟩:=hg _ (zI hi);show (zlJ g n t12 t13 t14 l l.length i).ev H K D=_;unfold zlJ;simp only [Wy.ev_i,Wy.ev_k,Wy.ev_h,Wy.ev_bn,Wy.ev_d,tT,hi,At.eta];rw [zbmP g _ h1 h3 _ _ _ _ _ _ _ _ _ (by omega) (by omega)]
   simp only [cond_true,Int.toNat_natCast];rw [zbm8 g _ h2 h4 _ _ _ _ _ _ _ _ (by omega) (by omega)]
   simp only [cond_true];rw [zgY (by omega),ziU,Nat.add_assoc]⟩)
  (λn hI H K D=>by
   show (zlJ g n t12 t13 t14 l l.length l.length).ev H K D=_;unfold zlJ;simp only [Wy.ev_i,Wy.ev_k,tT,Nat.lt_irrefl]) fuel 0 n (by omega) (Nat.zero_le _) (by simpa using hn)
 rw [List.drop_zero,zex,zbdV] at h;exact h
theorem zbnH (l:yC) (hl:l.length<=1000000) (hg:∀ t∈l,t.Fs.length<=1000000/\∀ f∈t.Fs,(f.At.Ag.length<=1000000/\f.At.Items.length<=1000000)/\(∀ y∈f.At.Ag,g y=(true,(zX y:Int)))/\∀ y∈f.At.Items,g y.Ann=(true,(zX y.Ann:Int))) (fuel n:Nat) (hf:l.length<fuel) (hn:n+zX l<=4611686018427387904):
  zFc g fuel n l l.length 0=(true,((n+zX l:Nat):Int)):=by
 have h:=zeu (W:=zxC g) (z:=default) (l:=l) (λi (n:Nat)=>((n:Int),l,(l.length:Int),(i:Int),())) (λ_ _=>()) (λy n=>.inl (n+1+y.Fs.length+zcc y.Fs)) (λn=>(n:Int)) (λi n=>n+zX (l.drop i)<=4611686018427387904)
  (λi n hi hI=>.inl ⟨_,rfl,by rw [zY hi,zjN] at hI; omega,λH K D=>by
   rw [zY hi,zjN] at hI;obtain ⟨h1,h3⟩:=hg _ (zI hi);show (zlD g n l l.length i).ev H K D=_;unfold zlD;simp only [Wy.ev_i,Wy.ev_k,Wy.ev_h,Wy.ev_bn,Wy.ev_d,tT,hi,At.eta];rw [show (1:Int)=((1:Nat):Int) from rfl,zus (n:=1) (by omega),zus (by omega)]
   rw [zbnm g _ h1 h3 _ _ _ _ _ (by omega) (by omega)]
   simp only [cond_true];rw [show ((1:Nat):Int)=(1:Int) from rfl,zgY (by omega),Nat.add_assoc n 1]⟩)
  (λn hI H K D=>by
   show (zlD g n l l.length l.length).ev H K D=_;unfold zlD;simp only [Wy.ev_i,Wy.ev_k,tT,Nat.lt_irrefl]) fuel 0 n (by omega) (Nat.zero_le _) (by simpa using hn)
 rw [List.drop_zero,zex,zbcI] at h;exact h
theorem zbkz (x:At) (hl:x.Ag.length<=1000000) (hg:∀ y∈x.Ag,g y=(true,(zX y:Int))) (a:yC) (i k:Int) (fuel n:Nat) (hf:x.Ag.length<fuel) (hn:n+zfp x.Ag<=4611686018427387904):
  zNG g fuel a n i k 0 x=(true,(a,((n+zfp x.Ag:Nat):Int),i,k,x)):=by
 have h:=zeu (W:=zDX g) (z:=default) (l:=x.Ag) (λj (n:Nat)=>(a,(n:Int),i,k,(),(j:Int),())) (λ_ _=>(x,())) (λy n=>.inl (n+zX y)) (λn=>(a,(n:Int),i,k,x)) (λi n=>n+zfp (x.Ag.drop i)<=4611686018427387904)
  (λj n hi hI=>.inl ⟨_,rfl,by rw [zY hi,zh2] at hI; omega,λH K D=>by
   rw [zY hi,zh2] at hI;show (zrA g a n i k j x).ev H K D=_;unfold zrA;simp only [Wy.ev_i,Wy.ev_k,Wy.ev_h,Wy.ev_bn,Wy.ev_d,tT,hi,hg _ (zI hi)];rw [zus (by omega),zgY (by omega)]⟩)
  (λn hI H K D=>by
   show (zrA g a n i k x.Ag.length x).ev H K D=_;unfold zrA;simp only [Wy.ev_i,Wy.ev_k,tT,Nat.lt_irrefl]) fuel 0 n (by omega) (Nat.zero_le _) (by simpa using hn)
 rw [List.drop_zero,zex,z8a] at h;exact h
theorem zbks (x:At) (hl:x.Items.length<=1000000) (hg:∀ y∈x.Items,g y.Ann=(true,(zX y.Ann:Int))) (a:yC) (i k:Int) (fuel n:Nat) (hf:x.Items.length<fuel) (hn:n+zdU x.Items<=4611686018427387904):
  zPu g fuel a n i k 0 x=(true,(a,((n+zdU x.Items:Nat):Int),i,k)):=by
 have h:=zeu (W:=zD1 g) (z:=default) (l:=x.Items) (λj (n:Nat)=>(a,(n:Int),i,k,(),(j:Int),())) (λ_ _=>(x,())) (λy n=>.inl (n+1+zX y.Ann)) (λn=>(a,(n:Int),i,k)) (λi n=>n+zdU (x.Items.drop i)<=4611686018427387904)
  (λj n hi hI=>.inl ⟨_,rfl,by rw [zY hi,zj4] at hI; omega,λH K D=>by
   rw [zY hi,zj4] at hI;show (zqU g a n i k j x).ev H K D=_;unfold zqU;simp only [Wy.ev_i,Wy.ev_k,Wy.ev_h,Wy.ev_bn,Wy.ev_d,tT,hi,hg _ (zI hi)];rw [zgY (i:=j) (by omega),zgY (i:=n) (by omega),zus (by omega)]⟩)
  (λn hI H K D=>by
   show (zqU g a n i k x.Items.length x).ev H K D=_;unfold zqU;simp only [Wy.ev_i,Wy.ev_k,tT,Nat.lt_irrefl]) fuel 0 n (by omega) (Nat.zero_le _) (by simpa using hn)
 rw [List.drop_zero,zex,z5w] at h;exact h
theorem zHu:∀ (a:yC) (i:Nat),i<a.length->(a.getD i default).Fs.length<=zbD a
 | [],i,h=>by simp at h
 | t::r,0,h=>by
  have:∀ l:yD,l.length<=zKS l:=λl=>by
   induction l with
   | nil=>exact Nat.le_refl _
   | cons f r ih=>simp only [zKS,qf]; omega
  have:=this t.Fs;simp only [zbD,List.getD_cons_zero]; omega
 | t::r,i+1,h=>by
  have:=zHu r i (by simpa using h)
  simp only [zbD,List.getD_cons_succ]; omega
theorem foldl_factors' (l:yD):∀ n:Nat,l.foldl (λs t=>s+1+zkv t.At) n=n+l.length+zcc l:=by
 induction l with
 | nil=>intro n; rw [zmJ]; rfl
 | cons a r ih=>intro n; rw [List.foldl_cons,ih,zeF,qf]; omega
theorem zbl7 (a:yC) (i:Nat) (hi:i<a.length) (hla:a.length<=1000000) (l:yD) (el:(a.getD i default).Fs=l) (hl:l.length<=1000000) (hg:∀ f∈l,(f.At.Ag.length<=1000000/\f.At.Items.length<=1000000)/\(∀ y∈f.At.Ag,g y=(true,(zX y:Int)))/\∀ y∈f.At.Items,g y.Ann=(true,(zX y.Ann:Int))) (fuel n:Nat) (hf:l.length<fuel) (hn:n+l.length+zcc l<=4611686018427387904):
  zQQ g fuel a n i 0=(true,(a,((n+l.length+zcc l:Nat):Int),(i:Int))):=by
 have h:=zeu (W:=zGf g) (z:=default) (l:=l) (λk (n:Nat)=>(a,(n:Int),(i:Int),(k:Int),())) (λ_ _=>()) (λy n=>.inl (n+1+zkv y.At)) (λn=>(a,(n:Int),(i:Int))) (λk n=>n+(l.drop k).length+zcc (l.drop k)<=4611686018427387904)
  (λk n hk hI=>.inl ⟨_,rfl,by rw [zY hk,zeF,qf] at hI; omega,λH K D=>by
   rw [zY hk,zeF,ziU,qf] at hI;obtain ⟨⟨h1,h2⟩,h3,h4⟩:=hg _ (zI hk);show (zum g a n i k).ev H K D=_;unfold zum;simp only [Wy.ev_i,Wy.ev_k,Wy.ev_h,Wy.ev_bn,Wy.ev_d,tT,hi,el,hk,At.eta];rw [zgY (i:=n) (by omega)]
   rw [zbkz g _ h1 h3 _ _ _ _ _ (by omega) (by omega)]
   simp only [cond_true,Int.toNat_natCast,At.eta];rw [zbks g _ h2 h4 _ _ _ _ _ (by omega) (by omega)]
   simp only [cond_true];rw [zgY (by omega),ziU,Nat.add_assoc (n+1)]⟩)
  (λn hI H K D=>by
   show (zum g a n i l.length).ev H K D=_;unfold zum;simp only [Wy.ev_i,Wy.ev_k,tT,hi,el,Nat.lt_irrefl]) fuel 0 n (by omega) (Nat.zero_le _) (by simpa using hn)
 rw [List.drop_zero,zex,foldl_factors'] at h;exact h
theorem zbmG (l:yC) (hl:l.length<=1000000) (hg:∀ t∈l,t.Fs.length<=1000000/\∀ f∈t.Fs,(f.At.Ag.length<=1000000/\f.At.Items.length<=1000000)/\(∀ y∈f.At.Ag,g y=(true,(zX y:Int)))/\∀ y∈f.At.Items,g y.Ann=(true,(zX y.Ann:Int))) (fuel n:Nat) (hf:l.length<fuel) (hn:n+zX l<=4611686018427387904):
  zQ8 g fuel l n 0=(true,((n+zX l:Nat):Int)):=by
 have h:=zeu (W:=zFA g) (z:=default) (l:=l) (λi (n:Nat)=>(l,(n:Int),(i:Int),())) (λ_ _=>()) (λy n=>.inl (n+1+y.Fs.length+zcc y.Fs)) (λn=>(n:Int)) (λi n=>n+zX (l.drop i)<=4611686018427387904)
  (λi n hi hI=>.inl ⟨_,rfl,by rw [zY hi,zjN] at hI; omega,λH K D=>by
   rw [zY hi,zjN] at hI;obtain ⟨h1,h3⟩:=hg _ (zI hi);have hz:=zHu l i hi;show (ztz g l n i).ev H K D=_;unfold ztz;simp only [Wy.ev_i,Wy.ev_k,Wy.ev_h,Wy.ev_bn,Wy.ev_d,tT,hi,At.eta];rw [zgY (i:=n) (by omega)]
   rw [zbl7 g l i hi hl _ rfl h1 h3 _ _ (by omega) (by omega)]
   simp only [cond_true];rw [zgY (by omega)]⟩)
  (λn hI H K D=>by
   show (ztz g l n l.length).ev H K D=_;unfold ztz;simp only [Wy.ev_i,Wy.ev_k,tT,Nat.lt_irrefl]) fuel 0 n (by omega) (Nat.zero_le _) (by simpa using hn)
 rw [List.drop_zero,zex,zbcI] at h;exact h
end
theorem zbgN {l:yA} {y:yC} (h:y∈l):zX y<=zfp l:=by
 induction l with
 | nil=>cases h
 | cons a r ih=>
  rw [zh2];rcases qd.1 h with rfl | h
  ·omega
  ·have:=ih h; omega
theorem zbeN {l:yE} {y:Wd} (h:y∈l):zX y.Ann<=zdU l:=by
 induction l with
 | nil=>cases h
 | cons a r ih=>
  rw [zj4];rcases qd.1 h with rfl | h
  ·omega
  ·have:=ih h; omega
theorem zTd {l:yD} {y:Fc} (h:y∈l):zkv y.At<=zcc l:=by
 induction l with
 | nil=>cases h
 | cons a r ih=>
  rw [zeF];rcases qd.1 h with rfl | h
  ·omega
  ·have:=ih h; omega
theorem zbiY {l:yC} {y:Term} (h:y∈l):zcc y.Fs<=zX l:=by
 induction l with
 | nil=>cases h
 | cons a r ih=>
  rw [zjN];rcases qd.1 h with rfl | h
  ·omega
  ·have:=ih h; omega
theorem zbca {a:yC} {t:Term} {f:Fc} (ht:t∈a) (hf:f∈t.Fs):zfp f.At.Ag+zdU f.At.Items<=zX a:=by
 have h1:=zbiY ht; have h2:=zTd hf; rw [ziU] at h2; omega
theorem zSR {d:Nat} {a:yC} (h:zw (d+1) a) {t:Term} (ht:t∈a):t.Fs.length<=1000000/\∀ f∈t.Fs,(f.At.Ag.length<=1000000/\f.At.Items.length<=1000000)/\(∀ y∈f.At.Ag,zw d y)/\∀ y∈f.At.Items,zw d y.Ann:=
 ⟨(h.2 t ht).1,λf hf=>have q:=(h.2 t ht).2 f hf; ⟨⟨q.1.1,q.1.2.1⟩,q.2.1,λy hy=>(q.2.2 y hy).2⟩⟩
theorem z7M:∀ (n d:Nat) (a:yC),zw d a->d<=n->zX a<=4611686018427387904->zlO n a=(true,(zX a:Int))/\zwr n a=(true,(zX a:Int))
 | n,0,a,h,hd,hs=>h.elim
 | 0,d+1,a,h,hd,hs=>by omega
 | n+1,d+1,a,h,hd,hs=>by
  have hg:=λy (hy:zw d y) (hs:zX y<=4611686018427387904)=>z7M n d y hy (by omega) hs
  have hsub:∀ t∈a,t.Fs.length<=1000000/\∀ f∈t.Fs,(f.At.Ag.length<=1000000/\f.At.Items.length<=1000000)/\(∀ y∈f.At.Ag,zw d y/\zX y<=4611686018427387904)/\∀ y∈f.At.Items,zw d y.Ann/\zX y.Ann<=4611686018427387904:=λt ht=>by
   obtain ⟨h1,h2⟩:=zSR h ht;refine ⟨h1,λf hf=> ?_⟩
   obtain ⟨h3,h4,h5⟩:=h2 f hf;have h6:=zbca ht hf;exact ⟨h3,λy hy=>⟨h4 y hy,by have:=zbgN hy; omega⟩,λy hy=>⟨h5 y hy,by have:=zbeN hy; omega⟩⟩
  constructor
  ·rw [zVA];unfold zvl zGI
   have h1:=zbnH (zlO n) a h.1 (λt ht=>⟨(hsub t ht).1,λf hf=>⟨((hsub t ht).2 f hf).1,λy hy=>(hg y (((hsub t ht).2 f hf).2.1 y hy).1 (((hsub t ht).2 f hf).2.1 y hy).2).1,λy hy=>(hg _ (((hsub t ht).2 f hf).2.2 y hy).1 (((hsub t ht).2 f hf).2.2 y hy).2).1⟩⟩)
    (Int.toNat 0+a.length+(Int.ofNat a.length).toNat +Int.toNat 0+1) 0 (by omega) (by omega)
   rw [show ((0:Nat):Int)=(0:Int) from rfl,Nat.zero_add] at h1
   rw [Wy.fin_bn,show Int.ofNat a.length=(a.length:Int) from rfl] at *
   rw [h1]; rfl
  ·rw [zbai];unfold zGi zVd
   have h1:=zbmG (zwr n) a h.1 (λt ht=>⟨(hsub t ht).1,λf hf=>⟨((hsub t ht).2 f hf).1,λy hy=>(hg y (((hsub t ht).2 f hf).2.1 y hy).1 (((hsub t ht).2 f hf).2.1 y hy).2).2,λy hy=>(hg _ (((hsub t ht).2 f hf).2.2 y hy).1 (((hsub t ht).2 f hf).2.2 y hy).2).2⟩⟩)
    (a.length+Int.toNat 0+Int.toNat 0+1+zbD a) 0 (by omega) (by omega)
   rw [show ((0:Nat):Int)=(0:Int) from rfl,Nat.zero_add] at h1
   rw [Wy.fin_bn,h1]; rfl
mutual
def zn4:At->Nat
 | ⟨k,_,a,_,i,_,_⟩=>if k=0 then 0 else 1+max (zmI a) (zlo i)
def zdw:yD->Nat
 | []=>0
 | ⟨x,_⟩::r=>max (zn4 x) (zdw r)
def zbJ:yC->Nat
 | []=>0
 | ⟨_,fs⟩::r=>max (zdw fs) (zbJ r)
def zmI:yA->Nat
 | []=>0
 | a::r=>max (zbJ a) (zmI r)
def zlo:yE->Nat
 | []=>0
 | ⟨_,a⟩::r=>max (zbJ a) (zlo r)
end
theorem zFe (x:At):zn4 x=if x.Kind=0 then 0 else 1+max (zmI x.Ag) (zlo x.Items):=by cases x; rw [zn4]
theorem zn6 (f:Fc) (r:yD):zdw (f::r)=max (zn4 f.At) (zdw r):=by cases f; rw [zdw]
theorem zDn (t:Term) (r:yC):zbJ (t::r)=max (zdw t.Fs) (zbJ r):=by cases t; rw [zbJ]
theorem zFi (a:yC) (r:yA):zmI (a::r)=max (zbJ a) (zmI r):=by rw [zmI]
theorem zDv (w:Wd) (r:yE):zlo (w::r)=max (zbJ w.Ann) (zlo r):=by cases w; rw [zlo]
theorem zSO:zmI []=0:=by rw [zmI]
theorem zOk:zlo []=0:=by rw [zlo]
theorem zv8:zdw []=0:=by rw [zdw]
theorem zMF:zbJ []=0:=by rw [zbJ]
theorem zbiU (l:yA):∀ n:Nat,l.foldl (λs t=>max s (zbJ t)) n=max n (zmI l):=by
 induction l with
 | nil=>intro n; rw [zSO]; exact (Nat.max_zero n).symm
 | cons a r ih=>intro n; rw [List.foldl_cons,ih,zFi]; omega
theorem zbg1 (l:yE):∀ n:Nat,l.foldl (λs t=>max s (zbJ t.Ann)) n=max n (zlo l):=by
 induction l with
 | nil=>intro n; rw [zOk]; exact (Nat.max_zero n).symm
 | cons a r ih=>intro n; rw [List.foldl_cons,ih,zDv]; omega
theorem zbgQ (l:yA):∀ n:Nat,l.foldl (λs t=>max s (1+zbJ t)) (1+n)=1+max n (zmI l):=by
 induction l with
 | nil=>intro n; rw [zSO]; simp
 | cons a r ih=>intro n; rw [List.foldl_cons,show max (1+n) (1+zbJ a)=1+max n (zbJ a) by omega,ih,zFi]; omega
theorem zbfy (l:yE):∀ n:Nat,l.foldl (λs t=>max s (1+zbJ t.Ann)) (1+n)=1+max n (zlo l):=by
 induction l with
 | nil=>intro n; rw [zOk]; simp
 | cons a r ih=>intro n; rw [List.foldl_cons,show max (1+n) (1+zbJ a.Ann)=1+max n (zbJ a.Ann) by omega,ih,zDv]; omega
theorem zYr (l:yD):∀ n:Nat,l.foldl (λs t=>max s (zn4 t.At)) n=max n (zdw l):=by
 induction l with
 | nil=>intro n; rw [zv8]; exact (Nat.max_zero n).symm
 | cons a r ih=>intro n; rw [List.foldl_cons,ih,zn6]; omega
theorem zbcq (l:yC):∀ n:Nat,l.foldl (λs t=>max s (zdw t.Fs)) n=max n (zbJ l):=by
 induction l with
 | nil=>intro n; rw [zMF]; exact (Nat.max_zero n).symm
 | cons a r ih=>intro n; rw [List.foldl_cons,ih,zDn]; omega
theorem z3v (a b:Nat):(if (a:Int)>(b:Int) then (a:Int) else (b:Int))=((max b a:Nat):Int):=by split <;>omega
theorem z98 {d:Nat}:∀ l:yA,(∀ y∈l,zbJ y<=d)->zmI l<=d:=λl=>by
 induction l with
 | nil=>intro _; rw [zSO]; omega
 | cons y r ih=>intro hy; rw [zFi]; have h1:=hy y (by simp); have h2:=ih λz hz=>hy z (by simp [hz]); omega
theorem z5W {d:Nat}:∀ l:yE,(∀ y∈l,zbJ y.Ann<=d)->zlo l<=d:=λl=>by
 induction l with
 | nil=>intro _; rw [zOk]; omega
 | cons y r ih=>intro hy; rw [zDv]; have h1:=hy y (by simp); have h2:=ih λz hz=>hy z (by simp [hz]); omega
theorem zbdP {d:Nat}:∀ l:yD,(∀ y∈l,zn4 y.At<=d)->zdw l<=d:=λl=>by
 induction l with
 | nil=>intro _; rw [zv8]; omega
 | cons y r ih=>intro hy; rw [zn6]; have h1:=hy y (by simp); have h2:=ih λz hz=>hy z (by simp [hz]); omega
theorem zbjm {d:Nat}:∀ l:yC,(∀ y∈l,zdw y.Fs<=d)->zbJ l<=d:=λl=>by
 induction l with
 | nil=>intro _; rw [zMF]; omega
 | cons y r ih=>intro hy; rw [zDn]; have h1:=hy y (by simp); have h2:=ih λz hz=>hy z (by simp [hz]); omega
theorem zXg:∀ (d:Nat) (a:yC),zw d a->zbJ a<=d
 | 0,a,h=>h.elim
 | d+1,a,h=>zbjm a λt ht=>zbdP _ λf hf=>by
  obtain ⟨_,h2⟩:=zSR h ht;obtain ⟨_,h4,h5⟩:=h2 f hf;have q1:=z98 f.At.Ag λy hy=>zXg d y (h4 y hy)
  have q2:=z5W f.At.Items λy hy=>zXg d y.Ann (h5 y hy)
  rw [zFe]; split <;>omega
section
variable (g:yC->Bool×Int)
theorem zbnb (l:yA) (hl:l.length<=1000000) (hg:∀ y∈l,g y=(true,(zbJ y:Int))) (nn:Int) (t13:yC) (t14 t15:Int) (t20:yD) (t21 t22:Int) (f:Fc) (fuel n:Nat) (hf:l.length<fuel):
  zAF g fuel nn n t13 t14 t15 t20 t21 t22 l l.length 0 f=(true,(nn,((max n (zmI l):Nat):Int),t13,t14,t15,t20,t21,t22,f)):=by
 have h:=zeu (W:=zrq g) (z:=default) (l:=l) (λi (n:Nat)=>(nn,(),(n:Int),t13,t14,t15,t20,t21,t22,l,(l.length:Int),(i:Int),())) (λ_ _=>(f,())) (λy n=>.inl (max n (zbJ y))) (λn=>(nn,(n:Int),t13,t14,t15,t20,t21,t22,f)) (λi n=>True)
  (λi n hi hI=>.inl ⟨_,rfl,trivial,λH K D=>by
   show (zid g nn n t13 t14 t15 t20 t21 t22 l l.length i f).ev H K D=_;unfold zid;simp only [Wy.ev_i,Wy.ev_k,Wy.ev_h,Wy.ev_bn,Wy.ev_d,tT,hi,hg _ (zI hi),z3v];rw [zgY (by omega)]⟩)
  (λn hI H K D=>by
   show (zid g nn n t13 t14 t15 t20 t21 t22 l l.length l.length f).ev H K D=_;unfold zid;simp only [Wy.ev_i,Wy.ev_k,tT,Nat.lt_irrefl]) fuel 0 n (by omega) (Nat.zero_le _) trivial
 rw [List.drop_zero,zex,zbiU] at h;exact h
theorem zboa (l:yE) (hl:l.length<=1000000) (hg:∀ y∈l,g y.Ann=(true,(zbJ y.Ann:Int))) (nn:Int) (t13:yC) (t14 t15:Int) (t20:yD) (t21 t22:Int) (fuel n:Nat) (hf:l.length<fuel):
  zBc g fuel nn n t13 t14 t15 t20 t21 t22 l l.length 0=(true,(nn,((max n (zlo l):Nat):Int),t13,t14,t15,t20,t21,t22)):=by
 have h:=zeu (W:=zq1 g) (z:=default) (l:=l) (λi (n:Nat)=>(nn,(n:Int),t13,t14,t15,t20,t21,t22,l,(l.length:Int),(i:Int),())) (λ_ _=>()) (λy n=>.inl (max n (zbJ y.Ann))) (λn=>(nn,(n:Int),t13,t14,t15,t20,t21,t22)) (λi n=>True)
  (λi n hi hI=>.inl ⟨_,rfl,trivial,λH K D=>by
   show (zh4 g nn n t13 t14 t15 t20 t21 t22 l l.length i).ev H K D=_;unfold zh4;simp only [Wy.ev_i,Wy.ev_k,Wy.ev_h,Wy.ev_bn,Wy.ev_d,tT,hi,hg _ (zI hi),z3v];rw [zgY (by omega)]⟩)
  (λn hI H K D=>by
   show (zh4 g nn n t13 t14 t15 t20 t21 t22 l l.length l.length).ev H K D=_;unfold zh4;simp only [Wy.ev_i,Wy.ev_k,tT,Nat.lt_irrefl]) fuel 0 n (by omega) (Nat.zero_le _) trivial
 rw [List.drop_zero,zex,zbg1] at h;exact h
def zVM (x:At):Prop:=(x.Ag.length<=1000000/\x.Items.length<=1000000)/\(zn4 x<=1000/\(∀ y∈x.Ag,zbJ y<=1000)/\∀ y∈x.Items,zbJ y.Ann<=1000)/\(∀ y∈x.Ag,g y=(true,(zbJ y:Int)))/\∀ y∈x.Items,g y.Ann=(true,(zbJ y.Ann:Int))
theorem zboo (l:yD) (hl:l.length<=1000000) (hg:∀ f∈l,zVM g f.At) (t13:yC) (t14 t15:Int) (fuel n:Nat) (hf:l.length<fuel):
  zB3 g fuel n t13 t14 t15 l l.length 0=(true,(((max n (zdw l):Nat):Int),t13,t14,t15)):=by
 have h:=zeu (W:=zsX g) (z:=default) (l:=l) (λi (n:Nat)=>((n:Int),t13,t14,t15,l,(l.length:Int),(i:Int),())) (λ_ _=>()) (λy n=>.inl (max n (zn4 y.At))) (λn=>((n:Int),t13,t14,t15)) (λi n=>True)
  (λi n hi hI=>.inl ⟨_,rfl,trivial,λH K D=>by
   obtain ⟨⟨h1,h2⟩,⟨h5,_,_⟩,h3,h4⟩:=hg _ (zI hi);show (zjf g n t13 t14 t15 l l.length i).ev H K D=_;unfold zjf;simp only [Wy.ev_i,Wy.ev_k,Wy.ev_h,Wy.ev_bn,Wy.ev_d,tT,hi,At.eta];generalize l.getD i default=f at *;rw [zFe] at h5 ⊢;by_cases hk:f.At.Kind=0
   ·have e:(f.At.Kind==0)=true:=by simp [hk]
    simp only [e,cond_true];rw [if_pos hk,Nat.max_zero,zgY (by omega)]
   ·have e:(f.At.Kind==0)=false:=by simp [hk]
    simp only [e,cond_false];rw [if_neg hk] at h5 ⊢;have q:=λfuel hf=>zbnb g _ h1 h3 n t13 t14 t15 l l.length i f fuel 0 hf
    rw [Nat.zero_max,show ((0:Nat):Int)=(0:Int) from rfl] at q
    rw [q _ (by omega)]
    simp only [cond_true,Int.toNat_natCast];rw [zboa g _ h2 h4 n t13 t14 t15 l l.length i _ _ (by omega)]
    simp only [cond_true];rw [zgY (by omega),show (1:Int)=((1:Nat):Int) from rfl,zus (n:=1) (by omega),z3v]⟩)
  (λn hI H K D=>by
   show (zjf g n t13 t14 t15 l l.length l.length).ev H K D=_;unfold zjf;simp only [Wy.ev_i,Wy.ev_k,tT,Nat.lt_irrefl]) fuel 0 n (by omega) (Nat.zero_le _) trivial
 rw [List.drop_zero,zex,zYr] at h;exact h
theorem zboA (l:yC) (hl:l.length<=1000000) (hg:∀ t∈l,t.Fs.length<=1000000/\∀ f∈t.Fs,zVM g f.At) (fuel n:Nat) (hf:l.length<fuel):
  zCa g fuel n l l.length 0=(true,((max n (zbJ l):Nat):Int)):=by
 have h:=zeu (W:=zss g) (z:=default) (l:=l) (λi (n:Nat)=>((n:Int),l,(l.length:Int),(i:Int),())) (λ_ _=>()) (λy n=>.inl (max n (zdw y.Fs))) (λn=>(n:Int)) (λi n=>True)
  (λi n hi hI=>.inl ⟨_,rfl,trivial,λH K D=>by
   obtain ⟨h1,h3⟩:=hg _ (zI hi);show (zjh g n l l.length i).ev H K D=_;unfold zjh;simp only [Wy.ev_i,Wy.ev_k,Wy.ev_h,Wy.ev_bn,Wy.ev_d,tT,hi,At.eta];rw [zboo g _ h1 h3 _ _ _ _ _ (by omega)]
   simp only [cond_true];rw [zgY (by omega)]⟩)
  (λn hI H K D=>by
   show (zjh g n l l.length l.length).ev H K D=_;unfold zjh;simp only [Wy.ev_i,Wy.ev_k,tT,Nat.lt_irrefl]) fuel 0 n (by omega) (Nat.zero_le _) trivial
 rw [List.drop_zero,zex,zbcq] at h;exact h
theorem zbmQ (x:At) (hx:zVM g x) (a:yC) (most i k:Int) (fuel n:Nat) (hf:x.Ag.length<fuel):
  zza g fuel a most i k ((1+n:Nat):Int) 0 x=(true,(a,most,i,k,((1+max n (zmI x.Ag):Nat):Int),x)):=by
 obtain ⟨⟨h1,h2⟩,⟨h5,h6,h7⟩,h3,h4⟩:=hx
 have h:=zeu (W:=zzq g) (z:=default) (l:=x.Ag) (λj (n:Nat)=>(a,most,i,k,(),(n:Int),(j:Int),())) (λ_ _=>(x,())) (λy n=>.inl (max n (1+zbJ y))) (λn=>(a,most,i,k,(n:Int),x)) (λi n=>True)
  (λj n hi hI=>.inl ⟨_,rfl,trivial,λH K D=>by
   have h8:=h6 _ (zI hi);show (zmy g a most i k n j x).ev H K D=_;unfold zmy;simp only [Wy.ev_i,Wy.ev_k,Wy.ev_h,Wy.ev_bn,Wy.ev_d,tT,hi,h3 _ (zI hi)];rw [zgY (by omega),show (1:Int)=((1:Nat):Int) from rfl,zus (n:=1) (by omega),z3v]⟩)
  (λn hI H K D=>by
   show (zmy g a most i k n x.Ag.length x).ev H K D=_;unfold zmy;simp only [Wy.ev_i,Wy.ev_k,tT,Nat.lt_irrefl]) fuel 0 (1+n) (by omega) (Nat.zero_le _) trivial
 rw [List.drop_zero,zex,zbgQ] at h;exact h
theorem zbmA (x:At) (hx:zVM g x) (a:yC) (most i k:Int) (fuel n:Nat) (hf:x.Items.length<fuel):
  zGM g fuel a most i k ((1+n:Nat):Int) 0 x=(true,(a,most,i,k,((1+max n (zlo x.Items):Nat):Int))):=by
 obtain ⟨⟨h1,h2⟩,⟨h5,h6,h7⟩,h3,h4⟩:=hx
 have h:=zeu (W:=zy5 g) (z:=default) (l:=x.Items) (λj (n:Nat)=>(a,most,i,k,(),(n:Int),(j:Int),())) (λ_ _=>(x,())) (λy n=>.inl (max n (1+zbJ y.Ann))) (λn=>(a,most,i,k,(n:Int))) (λi n=>True)
  (λj n hi hI=>.inl ⟨_,rfl,trivial,λH K D=>by
   have h8:=h7 _ (zI hi);show (zmt g a most i k n j x).ev H K D=_;unfold zmt;simp only [Wy.ev_i,Wy.ev_k,Wy.ev_h,Wy.ev_bn,Wy.ev_d,tT,hi,h4 _ (zI hi)];rw [zgY (by omega),show (1:Int)=((1:Nat):Int) from rfl,zus (n:=1) (by omega),z3v]⟩)
  (λn hI H K D=>by
   show (zmt g a most i k n x.Items.length x).ev H K D=_;unfold zmt;simp only [Wy.ev_i,Wy.ev_k,tT,Nat.lt_irrefl]) fuel 0 (1+n) (by omega) (Nat.zero_le _) trivial
 rw [List.drop_zero,zex,zbfy] at h;exact h
theorem RNes_12' (x:At) (hx:zVM g x) (a:yC) (most i k:Int) (fuel:Nat) (hf:x.Ag.length<fuel):zza g fuel a most i k 1 0 x=(true,(a,most,i,k,((1+zmI x.Ag:Nat):Int),x)):=by
 have h:=zbmQ g x hx a most i k fuel 0 hf;rw [Nat.zero_max] at h; exact h
theorem zboe (a:yC) (i:Nat) (hi:i<a.length) (hla:a.length<=1000000) (l:yD) (el:(a.getD i default).Fs=l) (hl:l.length<=1000000) (hg:∀ f∈l,zVM g f.At) (fuel n:Nat) (hf:l.length<fuel):
  zIF g fuel a n i 0=(true,(a,((max n (zdw l):Nat):Int),(i:Int))):=by
 have h:=zeu (W:=zAz g) (z:=default) (l:=l) (λk (n:Nat)=>(a,(n:Int),(i:Int),(k:Int),())) (λ_ _=>()) (λy n=>.inl (max n (zn4 y.At))) (λn=>(a,(n:Int),(i:Int))) (λk n=>True)
  (λk n hk hI=>.inl ⟨_,rfl,trivial,λH K D=>by
   have hx:=hg _ (zI hk);have h5:=hx.2.1.1;show (znn g a n i k).ev H K D=_;unfold znn;simp only [Wy.ev_i,Wy.ev_k,Wy.ev_h,Wy.ev_bn,Wy.ev_d,tT,hi,el,hk,At.eta];generalize l.getD k default=f at *;rw [zFe] at h5 ⊢;by_cases hz:f.At.Kind=0
   ·have e:(f.At.Kind==0)=true:=by simp [hz]
    simp only [e,cond_true];rw [if_pos hz,Nat.max_zero,zgY (by omega)]
   ·have e:(f.At.Kind==0)=false:=by simp [hz]
    have hx1:=hx.1;simp only [e,cond_false];rw [if_neg hz] at h5 ⊢;rw [RNes_12' g _ hx _ _ _ _ _ (by omega)]
    simp only [cond_true,Int.toNat_natCast,At.eta];rw [zbmA g _ hx _ _ _ _ _ _ (by omega)]
    simp only [cond_true];rw [zgY (by omega),z3v]⟩)
  (λn hI H K D=>by
   show (znn g a n i l.length).ev H K D=_;unfold znn;simp only [Wy.ev_i,Wy.ev_k,tT,hi,el,Nat.lt_irrefl]) fuel 0 n (by omega) (Nat.zero_le _) trivial
 rw [List.drop_zero,zex,zYr] at h;exact h
theorem zbnT (l:yC) (hl:l.length<=1000000) (hg:∀ t∈l,t.Fs.length<=1000000/\∀ f∈t.Fs,zVM g f.At) (fuel n:Nat) (hf:l.length<fuel):
  zJM g fuel l n 0=(true,((max n (zbJ l):Nat):Int)):=by
 have h:=zeu (W:=zAS g) (z:=default) (l:=l) (λi (n:Nat)=>(l,(n:Int),(i:Int),())) (λ_ _=>()) (λy n=>.inl (max n (zdw y.Fs))) (λn=>(n:Int)) (λi n=>True)
  (λi n hi hI=>.inl ⟨_,rfl,trivial,λH K D=>by
   obtain ⟨h1,h3⟩:=hg _ (zI hi);have hz:=zHu l i hi;show (zng g l n i).ev H K D=_;unfold zng;simp only [Wy.ev_i,Wy.ev_k,Wy.ev_h,Wy.ev_bn,Wy.ev_d,tT,hi,At.eta];rw [zboe g l i hi hl _ rfl h1 h3 _ _ (by omega)]
   simp only [cond_true];rw [zgY (by omega)]⟩)
  (λn hI H K D=>by
   show (zng g l n l.length).ev H K D=_;unfold zng;simp only [Wy.ev_i,Wy.ev_k,tT,Nat.lt_irrefl]) fuel 0 n (by omega) (Nat.zero_le _) trivial
 rw [List.drop_zero,zex,zbcq] at h;exact h
end
theorem zbbM:∀ (n d:Nat) (a:yC),zw d a->d<=n->d<=100->zgz n a=(true,(zbJ a:Int))/\zle n a=(true,(zbJ a:Int))
 | n,0,a,h,hd,hs=>h.elim
 | 0,d+1,a,h,hd,hs=>by omega
 | n+1,d+1,a,h,hd,hs=>by
  have hg:=λy (hy:zw d y)=>zbbM n d y hy (by omega) (by omega)
  have hsub:∀ t∈a,t.Fs.length<=1000000/\∀ f∈t.Fs,zVM (zgz n) f.At/\zVM (zle n) f.At:=λt ht=>by
   obtain ⟨h1,h2⟩:=zSR h ht;refine ⟨h1,λf hf=> ?_⟩
   obtain ⟨h3,h4,h5⟩:=h2 f hf;have q1:∀ y∈f.At.Ag,zbJ y<=d:=λy hy=>zXg d y (h4 y hy)
   have q2:∀ y∈f.At.Items,zbJ y.Ann<=d:=λy hy=>zXg d y.Ann (h5 y hy)
   have q3:zn4 f.At<=1000:=by
    have r1:=z98 _ q1; have r2:=z5W _ q2;rw [zFe]; split <;>omega
   have q4:zn4 f.At<=1000/\(∀ y∈f.At.Ag,zbJ y<=1000)/\∀ y∈f.At.Items,zbJ y.Ann<=1000:=⟨q3,λy hy=>by have:=q1 y hy; omega,λy hy=>by have:=q2 y hy; omega⟩
   exact ⟨⟨h3,q4,λy hy=>(hg y (h4 y hy)).1,λy hy=>(hg _ (h5 y hy)).1⟩,⟨h3,q4,λy hy=>(hg y (h4 y hy)).2,λy hy=>(hg _ (h5 y hy)).2⟩⟩
  constructor
  ·rw [zPA];unfold zpZ zDk;have h1:=zboA (zgz n) a h.1 (λt ht=>⟨(hsub t ht).1,λf hf=>((hsub t ht).2 f hf).1⟩) (Int.toNat 0+a.length+(Int.ofNat a.length).toNat +Int.toNat 0+1) 0 (by omega)
   rw [show ((0:Nat):Int)=(0:Int) from rfl,Nat.zero_max] at h1
   rw [Wy.fin_bn,show Int.ofNat a.length=(a.length:Int) from rfl] at *
   rw [h1]; rfl
  ·rw [z1L];unfold zzz zLG;have h1:=zbnT (zle n) a h.1 (λt ht=>⟨(hsub t ht).1,λf hf=>((hsub t ht).2 f hf).2⟩) (a.length+Int.toNat 0+Int.toNat 0+1+zbD a) 0 (by omega)
   rw [show ((0:Nat):Int)=(0:Int) from rfl,Nat.zero_max] at h1
   rw [Wy.fin_bn,h1]; rfl
end Go.Proofs.YtljlfiomikifjaaGreatDoor
end
