/- Texts of this claim, joined (the program, its functions in plain words, and what they compute). -/
import Derived.Test.YtljlfiomikifjaaGreatDoorGC5
set_option autoImplicit false
set_option linter.unusedVariables false
set_option linter.unusedSectionVars false
set_option linter.unusedSimpArgs false
set_option maxRecDepth 1000000
set_option maxHeartbeats 0
noncomputable section
namespace Go.Proofs.YtljlfiomikifjaaGreatDoor
open Go Go.Ab
open Go.Proofs.Tryz
abbrev znf:=Unit×Unit×yC×Int×Int×yD×Int×Int×Unit
abbrev znm:=yB×yB×Unit
abbrev zD4:=yC×Int×Int×yB×yB
abbrev znd:=Unit×yC×Int×Int×Unit
abbrev znh:=yB×Unit
abbrev zuh:=yB
def zNq (zR:yC->Bool×yB) (t10:yC) (t11:Int) (t12:Int) (t19:yD) (t20:Int) (t21:Int) (all:yB) (sets:yB):Wy znf znm zD4:=.i (decide (t21<t20)) (.i (decide (0<=t21)&&decide (t21<Int.ofNat t19.length)) (.i ((t19.getD t21.toNat default).At.Kind==2) (.i (decide ((0:Int)<=(0:Int))&&decide (0<Int.ofNat (t19.getD t21.toNat default).At.Ag.length)) (.bn (zR ((t19.getD t21.toNat default).At.Ag.getD (Int.toNat 0) default)) λr12=>.bn (zDn sets r12) λr11=>.bn (zxy r11) λr10=>.h ((),(),t10,t11,t12,t19,t20,(IntKind.i64.wrap (t21+1)),()) (all,(r10),())) .d) (.bn (zDn sets [[(t19.getD t21.toNat default).At.Row]]) λr14=>.bn (zxy r14) λr13=>.h ((),(),t10,t11,t12,t19,t20,(IntKind.i64.wrap (t21+1)),()) (all,(r13),()))) .d) (.k (t10,t11,t12,all,sets))
def zBp (zR:yC->Bool×yB) (x:znf) (y:znm):=zNq zR x.2.2.1 x.2.2.2.1 x.2.2.2.2.1 x.2.2.2.2.2.1 x.2.2.2.2.2.2.1 x.2.2.2.2.2.2.2.1 y.1 y.2.1
def zNv (zR:yC->Bool×yB) (n:Nat) (t10:yC) (t11:Int) (t12:Int) (t19:yD) (t20:Int) (t21:Int) (all:yB) (sets:yB):=zC (zBp zR) default n ((),(),t10,t11,t12,t19,t20,t21,()) (all,sets,())
def zL8 (r:zD4):LTree ty:=.done (.exit 2) [.own 204,.own 205,.sl 28 r.1,.lit (.int .i64 r.2.1),.lit (.int .i64 r.2.2.1)] [.arr 43 r.2.2.2.1 false,.arr 43 r.2.2.2.2 false]
def zNf:LL ty znf:=za (zds 204) (za (zds 205) (za (lSl 28) (za zj (za zj (za (lSl 69) (za zj (za zj zl)))))))
def zNn:BL ty znm:=zdw 43 false (zdw 43 false (zbe))
def zNV (zR:yC->Bool×yB) (t10:yC) (t11:Int) (t12:Int) (all:yB):Wy znd znh zuh:=.i (decide (t12<t11)) (.i (decide (0<=t12)&&decide (t12<Int.ofNat t10.length)) (.bn (zNv zR (t10.length+t11.toNat +t12.toNat +(t10.getD t12.toNat default).Fs.length+(Int.ofNat (t10.getD t12.toNat default).Fs.length).toNat +Int.toNat 0+all.length+1+1000) t10 t11 t12 (t10.getD t12.toNat default).Fs (Int.ofNat (t10.getD t12.toNat default).Fs.length) 0 all [[]]) λr20=>.i (decide ((r20.2.2.2.1.length+r20.2.2.2.2.length)*24<=zO)) (.h ((),(r20.1),(r20.2.1),(IntKind.i64.wrap (r20.2.2.1+1)),()) ((r20.2.2.2.1++r20.2.2.2.2),())) .d) .d) (.k all)
def zBC (zR:yC->Bool×yB) (x:znd) (y:znh):=zNV zR x.2.1 x.2.2.1 x.2.2.2.1 y.1
def zM4 (zR:yC->Bool×yB) (n:Nat) (t10:yC) (t11:Int) (t12:Int) (all:yB):=zC (zBC zR) default n ((),t10,t11,t12,()) (all,())
def zLM (r:zuh):LTree ty:=.done (.exit 0) [.own 204] [.arr 43 r false]
def zNh:LL ty znd:=za (zds 204) (za (lSl 28) (za zj (za zj zl)))
def zNi:BL ty znh:=zdw 43 false (zbe)
def zLH (x:znf) (y:znm):Nat:=(x.2.2.1.length+Int.toNat x.2.2.2.1+Int.toNat x.2.2.2.2.1+x.2.2.2.2.2.1.length+Int.toNat x.2.2.2.2.2.2.1+Int.toNat x.2.2.2.2.2.2.2.1+y.1.length+y.2.1.length+1000)
def zLY (x:znd) (y:znh):Nat:=(x.2.1.length+Int.toNat x.2.2.1+Int.toNat x.2.2.2.1+y.1.length+1000)
def zqH (zR:yC->Bool×yB):=zb3 base 51 [(74,(zkC zR)),(143,zIo),(144,zIC)] [] [(3,[(3,.own 43),(10,.keep),(11,.keep),(12,.keep)]),(7,(kpL [3,6,10,11,12,19,20,21]))] [(3,1,(kpL [3])),(7,3,(kpL [3,6,10,11,12]))] [(7,spW zNf zNn (zBp zR) default zL8 zLH),(3,spW zNh zNi (zBC zR) default zLM zLY)] []
theorem zL5 (zR:yC->Bool×yB):zF (zqH zR) (lp (body f74) 1):=zq (id:=7) (hl:=rfl)
theorem zLJ (zR:yC->Bool×yB):zF (zqH zR) (lp (body f74) 0):=zq (id:=3) (hl:=rfl)
def zPN (zR:yC->Bool×yB) (a:yC):Wy0 zuh:=.bn (zM4 zR (a.length+(Int.ofNat a.length).toNat +Int.toNat 0+0+1000) a (Int.ofNat a.length) 0 []) λr23=>.bn (zxy r23) λr22=>.k r22
def zEL (zR:yC->Bool×yB) (a:yC):=(zPN zR a).fin default
theorem zJT (zR:yC->Bool×yB) (zPL:SdP 74 (zkC zR)):SdP 74 (zkC (zEL zR)):=
 sT (cx':=(zqH zR)) (zk ⟨zPL,zWH,zV8,trivial⟩) call74 func74 (lOK (aC (zLJ zR) (aC (zL5 zR) aN))) (sg:=⟨[.own 43],[]⟩)
def zXl:Nat->(yC->Bool×yB)
 | 0=>λ_=>(false,default)
 | n+1=>zEL (zXl n)
def zEQ (n:Nat):yC->Bool×yB:=zXl n
theorem zQ9:∀ n,SdP 74 (zkC (zEQ n))
 | 0=>zbc call74 (λ_=>rfl)
 | n+1=>by
  have ih:=zQ9 n;exact zJT _ (ih)
def zHs:yC->Bool×yB:=zEQ 1000
def zBB:Ab.Spec ty:=zkC zHs
theorem zLN:SdP 74 zBB:=(zQ9 1000)
def zQh:=zbt base 17 [(20,zce),(73,zBj),(74,zBB)]
def zTa (a:yC):Wy0 (yB×Int):=.bn (zbZ a) λr2=>.i (!r2) (.k ([],1)) (.bn (zHA a) λr1=>.i (!r1) (.k ([],13)) (.bn (zHs a) λr0=>.i (decide (Int.ofNat r0.length>512)) (.k ([],6)) (.k (r0,0))))
def zHC (a:yC):=(zTa a).fin default
def zON (r:yB×Int):ARes ty:=⟨[.own 43 r.1,.pure (.lit (.int .i64 r.2))],[]⟩
def zBa:=zi zZJ λx=>((zHC x.1).1,zON (zHC x.1).2)
theorem zMo:SdP 24 zBa:=
 sT (cx':=zQh) (zk ⟨zcg,zMe,zLN,trivial⟩) call24 func24 (lOK aN) (sg:=⟨[.own 43,.pure],[]⟩)
def z9X:=zbt base 8 []
def zY3 (x_:At):Wy0 (yC):=.k [TO.mk 1 [FO.mk (At.mk x_.Kind x_.Row x_.Ag x_.Func x_.Items x_.Op x_.Bd) 1]]
def zoc (x_:At):=(zY3 x_).fin default
def zG1:=zi zE5 λx=>((zoc x.1).1,zSe (zoc x.1).2)
theorem zQb:SdP 102 zG1:=
 sT (cx':=z9X) (zk trivial) call102 func102 (lOK aN) (sg:=⟨[.own 28],[]⟩)
def zbcn:=zbt base 14 [(102,zG1)]
def z3A (id:RowID):Wy0 (yC):=.i (decide (id.Table<1)) (.k []) (.i (decide (id.Seq<1)) (.k []) (.k ((zoc (At.mk 0 id [] 0 [] 0 (Value.mk 0 0 (ByteArray.mk #[])))).2)))
def zFA (id:RowID):=(z3A id).fin default
def zTG:=zi z8t λx=>((zFA x.1).1,zSe (zFA x.1).2)
theorem z6W:SdP 98 zTG:=
 sT (cx':=zbcn) (zk ⟨zQb,trivial⟩) call98 func98 (lOK aN) (sg:=⟨[.own 28],[]⟩)
def z1Z:=zbt base 6 [(98,zTG)]
def z4l (seq:Int):Wy0 (yC):=.bn (zFA (RowID.mk 1 seq)) λr0=>.k r0
def zTM (seq:Int):=(z4l seq).fin default
def zIF:=zi z2k λx=>((zTM x.1).1,zSe (zTM x.1).2)
theorem zVa:SdP 44 zIF:=
 sT (cx':=z1Z) (zk ⟨z6W,trivial⟩) call44 func44 (lOK aN) (sg:=⟨[.own 28],[]⟩)
def z7I:=zbt base 9 []
def zMg (n_:Int):Wy0 (yC):=.i (decide (n_<1)) (.k []) (.k [TO.mk (if 1152921504606846976<n_ then 1152921504606846976 else n_) []])
def zvn (n_:Int):=(zMg n_).fin default
def zPc:=zi z2k λx=>((zvn x.1).1,zSe (zvn x.1).2)
theorem z10:SdP 46 zPc:=
 sT (cx':=z7I) (zk trivial) call46 func46 (lOK aN) (sg:=⟨[.own 28],[]⟩)
end Go.Proofs.YtljlfiomikifjaaGreatDoor
/- What lies inside lists of terms and factors: fuel for loops. -/
namespace Go.Proofs.YtljlfiomikifjaaGreatDoor
open Go.Proofs.Tryz
def zLz:yD->Nat
 | []=>0
 | f::r=>f.Exp.toNat +f.At.Ag.length+f.At.Items.length+1+zLz r
def zb9:yC->Nat
 | []=>0
 | t::r=>zLz t.Fs+1+zb9 r
end Go.Proofs.YtljlfiomikifjaaGreatDoor
namespace Go.Proofs.YtljlfiomikifjaaGreatDoor
open Go Go.Ab
open Go.Proofs.Tryz
abbrev ziz:=yC×Int×Int×Int×Unit×Int×Int×Unit
abbrev zP3:=yC×Int×Int×Int×Int×At
abbrev zOv:=yC×Int×Int×Int×Int
abbrev zzC:=yC×Int×Int×Int×Unit
abbrev zOy:=yC×Int×Int
abbrev zy6:=yC×Int×Int×Unit
def zny (zD:yC->Bool×Int) (a:yC) (most:Int) (i:Int) (k:Int) (n_:Int) (j:Int) (x_:At):Wy ziz (At×Unit) zP3:=.i (decide (j<Int.ofNat x_.Ag.length)) (.i (decide (0<=j)&&decide (j<Int.ofNat x_.Ag.length)) (.bn (zD (x_.Ag.getD j.toNat default)) λr0=>.h (a,most,i,k,(),(if IntKind.i64.wrap (1+r0)>n_ then IntKind.i64.wrap (1+r0) else n_),(IntKind.i64.wrap (j+1)),()) (x_,())) .d) (.k (a,most,i,k,n_,x_))
def zA3 (zD:yC->Bool×Int) (x:ziz) (y:At×Unit):=zny zD x.1 x.2.1 x.2.2.1 x.2.2.2.1 x.2.2.2.2.2.1 x.2.2.2.2.2.2.1 y.1
def zA7 (zD:yC->Bool×Int) (n:Nat) (a:yC) (most:Int) (i:Int) (k:Int) (n_:Int) (j:Int) (x_:At):=zC (zA3 zD) default n (a,most,i,k,(),n_,j,()) (x_,())
def zVr (r:zP3):LTree ty:=.done (.exit 4) [.sl 28 r.1,.lit (.int .i64 r.2.1),.lit (.int .i64 r.2.2.1),.lit (.int .i64 r.2.2.2.1),.ptr 300 0,.lit (.int .i64 r.2.2.2.2.1)] [.box (base.enc 67 r.2.2.2.2.2) false]
def zYj:LL ty ziz:=za (lSl 28) (za zj (za zj (za zj (za (zgc 300 0) (za zj (za zj zl))))))
def zXM:BL ty (At×Unit):=zj7 (zh1 (λx=>(⟨x.1,⟨x.2.1,x.2.2.1⟩,x.2.2.2.1,x.2.2.2.2.1,x.2.2.2.2.2.1,x.2.2.2.2.2.2.1,⟨x.2.2.2.2.2.2.2.1,x.2.2.2.2.2.2.2.2.1,x.2.2.2.2.2.2.2.2.2.1⟩⟩:At)) (λx=>(x.Kind,x.Row.Table,x.Row.Seq,x.Ag,x.Func,x.Items,x.Op,x.Bd.Kind,x.Bd.Int,x.Bd.Text,())) (λ_=>rfl) (za (zT .i64) (za (zT .i64) (za (zT .i64) (za (lSl 23) (za (zT .i64) (za (lSl 100) (za (zT .i64) (za (zT .i64) (za (zT .i64) (za zsR zl))))))))))) false (zbe)
def znL (zD:yC->Bool×Int) (a:yC) (most:Int) (i:Int) (k:Int) (n_:Int) (j:Int) (x_:At):Wy ziz (At×Unit) zOv:=.i (decide (j<Int.ofNat x_.Items.length)) (.i (decide (0<=j)&&decide (j<Int.ofNat x_.Items.length)) (.bn (zD (x_.Items.getD j.toNat default).Ann) λr2=>.h (a,most,i,k,(),(if IntKind.i64.wrap (1+r2)>n_ then IntKind.i64.wrap (1+r2) else n_),(IntKind.i64.wrap (j+1)),()) (x_,())) .d) (.k (a,most,i,k,n_))
def zA0 (zD:yC->Bool×Int) (x:ziz) (y:At×Unit):=znL zD x.1 x.2.1 x.2.2.1 x.2.2.2.1 x.2.2.2.2.2.1 x.2.2.2.2.2.2.1 y.1
def zIG (zD:yC->Bool×Int) (n:Nat) (a:yC) (most:Int) (i:Int) (k:Int) (n_:Int) (j:Int) (x_:At):=zC (zA0 zD) default n (a,most,i,k,(),n_,j,()) (x_,())
def zVP (r:zOv):LTree ty:=.done (.exit 6) [.sl 28 r.1,.lit (.int .i64 r.2.1),.lit (.int .i64 r.2.2.1),.lit (.int .i64 r.2.2.2.1),.lit (.int .i64 r.2.2.2.2)] []
def zox (zD:yC->Bool×Int) (a:yC) (most:Int) (i:Int) (k:Int):Wy zzC Unit zOy:=.i (decide (0<=i)&&decide (i<Int.ofNat a.length)) (.i (decide (k<Int.ofNat (a.getD i.toNat default).Fs.length)) (.i (decide (0<=i)&&decide (i<Int.ofNat a.length)) (.i (decide (0<=k)&&decide (k<Int.ofNat (a.getD i.toNat default).Fs.length)) (.i (((a.getD i.toNat default).Fs.getD k.toNat default).At.Kind==0) (.h (a,most,i,(IntKind.i64.wrap (k+1)),()) ()) (.bn (zA7 zD ((a.length+most.toNat +i.toNat +k.toNat +Int.toNat 1+Int.toNat 0+((a.getD i.toNat default).Fs.getD k.toNat default).At.Ag.length+((a.getD i.toNat default).Fs.getD k.toNat default).At.Items.length+1)+zb9 a) a most i k 1 0 (At.mk ((a.getD i.toNat default).Fs.getD k.toNat default).At.Kind ((a.getD i.toNat default).Fs.getD k.toNat default).At.Row ((a.getD i.toNat default).Fs.getD k.toNat default).At.Ag ((a.getD i.toNat default).Fs.getD k.toNat default).At.Func ((a.getD i.toNat default).Fs.getD k.toNat default).At.Items ((a.getD i.toNat default).Fs.getD k.toNat default).At.Op ((a.getD i.toNat default).Fs.getD k.toNat default).At.Bd)) λr5=>.bn (zIG zD ((r5.1.length+r5.2.1.toNat +r5.2.2.1.toNat +r5.2.2.2.1.toNat +r5.2.2.2.2.1.toNat +Int.toNat 0+r5.2.2.2.2.2.Ag.length+r5.2.2.2.2.2.Items.length+1)+zb9 r5.1) r5.1 r5.2.1 r5.2.2.1 r5.2.2.2.1 r5.2.2.2.2.1 0 (At.mk r5.2.2.2.2.2.Kind r5.2.2.2.2.2.Row r5.2.2.2.2.2.Ag r5.2.2.2.2.2.Func r5.2.2.2.2.2.Items r5.2.2.2.2.2.Op r5.2.2.2.2.2.Bd)) λr4=>.h ((r4.1),(if r4.2.2.2.2>r4.2.1 then r4.2.2.2.2 else r4.2.1),(r4.2.2.1),(IntKind.i64.wrap (r4.2.2.2.1+1)),()) ())) .d) .d) (.k (a,most,i))) .d
def zC9 (zD:yC->Bool×Int) (x:zzC) (y:Unit):=zox zD x.1 x.2.1 x.2.2.1 x.2.2.2.1
def zKJ (zD:yC->Bool×Int) (n:Nat) (a:yC) (most:Int) (i:Int) (k:Int):=zC (zC9 zD) default n (a,most,i,k,()) ()
def zYi (r:zOy):LTree ty:=.done (.exit 2) [.sl 28 r.1,.lit (.int .i64 r.2.1),.lit (.int .i64 r.2.2)] []
def z0k:LL ty zzC:=za (lSl 28) (za zj (za zj (za zj zl)))
def zo5 (zD:yC->Bool×Int) (a:yC) (most:Int) (i:Int):Wy zy6 Unit (Int):=.i (decide (i<Int.ofNat a.length)) (.bn (zKJ zD ((a.length+most.toNat +i.toNat +Int.toNat 0+1)+zb9 a) a most i 0) λr8=>.h ((r8.1),(r8.2.1),(IntKind.i64.wrap (r8.2.2+1)),()) ()) (.k most)
def zCO (zD:yC->Bool×Int) (x:zy6) (y:Unit):=zo5 zD x.1 x.2.1 x.2.2.1
def zKK (zD:yC->Bool×Int) (n:Nat) (a:yC) (most:Int) (i:Int):=zC (zCO zD) default n (a,most,i,()) ()
def z0e:LL ty zy6:=za (lSl 28) (za zj (za zj zl))
def zWA (x:ziz) (y:At×Unit):Nat:=((x.1.length+Int.toNat x.2.1+Int.toNat x.2.2.1+Int.toNat x.2.2.2.1+Int.toNat x.2.2.2.2.2.1+Int.toNat x.2.2.2.2.2.2.1+y.1.Ag.length+y.1.Items.length+1)+zb9 x.1)
def zXS (x:zzC) (y:Unit):Nat:=((x.1.length+Int.toNat x.2.1+Int.toNat x.2.2.1+Int.toNat x.2.2.2.1+1)+zb9 x.1)
def zXC (x:zy6) (y:Unit):Nat:=((x.1.length+Int.toNat x.2.1+Int.toNat x.2.2.1+1)+zb9 x.1)
def zoB (zD:yC->Bool×Int):=zb3 base 75 [(108,(zqw zD))] [] [(3,(kpL [0,3,4])),(6,(kpL [0,3,4,5])),(12,(kpL [0,3,4,5,6,7,8])),(16,(kpL [0,3,4,5,6,7,9]))] [(3,1,(kpL [3])),(6,3,(kpL [0,3,4])),(12,5,(kpL [0,3,4,5,6,7])),(16,7,(kpL [0,3,4,5,7]))] [(12,spW zYj zXM (zA3 zD) default zVr zWA),(16,spW zYj zXM (zA0 zD) default zVP zWA),(6,spW z0k zZe (zC9 zD) default zYi zXS),(3,spW z0e zZe (zCO zD) default zUS zXC)] []
theorem zU9 (zD:yC->Bool×Int):zF (zoB zD) (lp (body f108) 2):=zq (id:=12) (hl:=rfl)
theorem zVX (zD:yC->Bool×Int):zF (zoB zD) (lp (body f108) 3):=zq (id:=16) (hl:=rfl)
theorem zYe (zD:yC->Bool×Int):zF (zoB zD) (lp (body f108) 1):=zq (id:=6) (hl:=rfl)
theorem zXz (zD:yC->Bool×Int):zF (zoB zD) (lp (body f108) 0):=zq (id:=3) (hl:=rfl)
def zMJ (zD:yC->Bool×Int) (a:yC):Wy0 (Int):=.bn (zKK zD ((a.length+Int.toNat 0+Int.toNat 0+1)+zb9 a) a 0 0) λr10=>.k r10
def zA9 (zD:yC->Bool×Int) (a:yC):=(zMJ zD a).fin default
theorem zTB (zD:yC->Bool×Int) (z13:SdP 108 (zqw zD)):SdP 108 (zqw (zA9 zD)):=
 sT (cx':=(zoB zD)) (zk ⟨z13,trivial⟩) call108 func108 (lOK (aC (zXz zD) (aC (zYe zD) (aC (zU9 zD) (aC (zVX zD) aN)))))
def zZA:Nat->(yC->Bool×Int)
 | 0=>λ_=>(false,default)
 | n+1=>zA9 (zZA n)
def zmE (n:Nat):yC->Bool×Int:=zZA n
theorem zZo (n:Nat):zmE (n+1)=zA9 (zmE n):=rfl
theorem zTu:∀ n,SdP 108 (zqw (zmE n))
 | 0=>zbc call108 (λ_=>rfl)
 | n+1=>by
  have ih:=zTu n;exact zTB _ (ih)
def zMa:yC->Bool×Int:=zmE 1000
def zKZ:Ab.Spec ty:=zqw zMa
theorem zXV:SdP 108 zKZ:=(zTu 1000)
abbrev zmU:=yC×Int×Int×Int×Unit×Int×Unit
abbrev zWY:=yC×Int×Int×Int×At
abbrev zWZ:=yC×Int×Int×Int
abbrev zFh:=yC×Int×Int×Int×Unit
abbrev zXv:=yC×Int×Int
abbrev zFd:=yC×Int×Int×Unit
def zr9 (zX:yC->Bool×Int) (a:yC) (n_:Int) (i:Int) (k:Int) (j:Int) (x_:At):Wy zmU (At×Unit) zWY:=.i (decide (j<Int.ofNat x_.Ag.length)) (.i (decide (0<=j)&&decide (j<Int.ofNat x_.Ag.length)) (.bn (zX (x_.Ag.getD j.toNat default)) λr0=>.h (a,(IntKind.i64.wrap (n_+r0)),i,k,(),(IntKind.i64.wrap (j+1)),()) (x_,())) .d) (.k (a,n_,i,k,x_))
def zFx (zX:yC->Bool×Int) (x:zmU) (y:At×Unit):=zr9 zX x.1 x.2.1 x.2.2.1 x.2.2.2.1 x.2.2.2.2.2.1 y.1
def zOU (zX:yC->Bool×Int) (n:Nat) (a:yC) (n_:Int) (i:Int) (k:Int) (j:Int) (x_:At):=zC (zFx zX) default n (a,n_,i,k,(),j,()) (x_,())
def z2H (r:zWY):LTree ty:=.done (.exit 4) [.sl 28 r.1,.lit (.int .i64 r.2.1),.lit (.int .i64 r.2.2.1),.lit (.int .i64 r.2.2.2.1),.ptr 284 0] [.box (base.enc 67 r.2.2.2.2) false]
def z4P:LL ty zmU:=za (lSl 28) (za zj (za zj (za zj (za (zgc 284 0) (za zj zl)))))
def zsM (zX:yC->Bool×Int) (a:yC) (n_:Int) (i:Int) (k:Int) (j:Int) (x_:At):Wy zmU (At×Unit) zWZ:=.i (decide (j<Int.ofNat x_.Items.length)) (.i (decide (0<=j)&&decide (j<Int.ofNat x_.Items.length)) (.bn (zX (x_.Items.getD j.toNat default).Ann) λr2=>.h (a,(IntKind.i64.wrap (IntKind.i64.wrap (n_+1)+r2)),i,k,(),(IntKind.i64.wrap (j+1)),()) (x_,())) .d) (.k (a,n_,i,k))
def zFt (zX:yC->Bool×Int) (x:zmU) (y:At×Unit):=zsM zX x.1 x.2.1 x.2.2.1 x.2.2.2.1 x.2.2.2.2.2.1 y.1
def zPw (zX:yC->Bool×Int) (n:Nat) (a:yC) (n_:Int) (i:Int) (k:Int) (j:Int) (x_:At):=zC (zFt zX) default n (a,n_,i,k,(),j,()) (x_,())
def z2y (r:zWZ):LTree ty:=.done (.exit 6) [.sl 28 r.1,.lit (.int .i64 r.2.1),.lit (.int .i64 r.2.2.1),.lit (.int .i64 r.2.2.2)] []
def zuN (zX:yC->Bool×Int) (a:yC) (n_:Int) (i:Int) (k:Int):Wy zFh Unit zXv:=.i (decide (0<=i)&&decide (i<Int.ofNat a.length)) (.i (decide (k<Int.ofNat (a.getD i.toNat default).Fs.length)) (.i (decide (0<=i)&&decide (i<Int.ofNat a.length)) (.i (decide (0<=k)&&decide (k<Int.ofNat (a.getD i.toNat default).Fs.length)) (.bn (zOU zX ((a.length+(IntKind.i64.wrap (n_+1)).toNat +i.toNat +k.toNat +Int.toNat 0+((a.getD i.toNat default).Fs.getD k.toNat default).At.Ag.length+((a.getD i.toNat default).Fs.getD k.toNat default).At.Items.length+1)+zb9 a) a (IntKind.i64.wrap (n_+1)) i k 0 (At.mk ((a.getD i.toNat default).Fs.getD k.toNat default).At.Kind ((a.getD i.toNat default).Fs.getD k.toNat default).At.Row ((a.getD i.toNat default).Fs.getD k.toNat default).At.Ag ((a.getD i.toNat default).Fs.getD k.toNat default).At.Func ((a.getD i.toNat default).Fs.getD k.toNat default).At.Items ((a.getD i.toNat default).Fs.getD k.toNat default).At.Op ((a.getD i.toNat default).Fs.getD k.toNat default).At.Bd)) λr5=>.bn (zPw zX ((r5.1.length+r5.2.1.toNat +r5.2.2.1.toNat +r5.2.2.2.1.toNat +Int.toNat 0+r5.2.2.2.2.Ag.length+r5.2.2.2.2.Items.length+1)+zb9 r5.1) r5.1 r5.2.1 r5.2.2.1 r5.2.2.2.1 0 (At.mk r5.2.2.2.2.Kind r5.2.2.2.2.Row r5.2.2.2.2.Ag r5.2.2.2.2.Func r5.2.2.2.2.Items r5.2.2.2.2.Op r5.2.2.2.2.Bd)) λr4=>.h ((r4.1),(r4.2.1),(r4.2.2.1),(IntKind.i64.wrap (r4.2.2.2+1)),()) ()) .d) .d) (.k (a,n_,i))) .d
def zHt (zX:yC->Bool×Int) (x:zFh) (y:Unit):=zuN zX x.1 x.2.1 x.2.2.1 x.2.2.2.1
def zRf (zX:yC->Bool×Int) (n:Nat) (a:yC) (n_:Int) (i:Int) (k:Int):=zC (zHt zX) default n (a,n_,i,k,()) ()
def z4x (r:zXv):LTree ty:=.done (.exit 2) [.sl 28 r.1,.lit (.int .i64 r.2.1),.lit (.int .i64 r.2.2)] []
def z7x:LL ty zFh:=za (lSl 28) (za zj (za zj (za zj zl)))
def zvj (zX:yC->Bool×Int) (a:yC) (n_:Int) (i:Int):Wy zFd Unit (Int):=.i (decide (i<Int.ofNat a.length)) (.bn (zRf zX ((a.length+(IntKind.i64.wrap (n_+1)).toNat +i.toNat +Int.toNat 0+1)+zb9 a) a (IntKind.i64.wrap (n_+1)) i 0) λr8=>.h ((r8.1),(r8.2.1),(IntKind.i64.wrap (r8.2.2+1)),()) ()) (.k n_)
def zHa (zX:yC->Bool×Int) (x:zFd) (y:Unit):=zvj zX x.1 x.2.1 x.2.2.1
def zRu (zX:yC->Bool×Int) (n:Nat) (a:yC) (n_:Int) (i:Int):=zC (zHa zX) default n (a,n_,i,()) ()
def z5F:LL ty zFd:=za (lSl 28) (za zj (za zj zl))
def z3h (x:zmU) (y:At×Unit):Nat:=((x.1.length+Int.toNat x.2.1+Int.toNat x.2.2.1+Int.toNat x.2.2.2.1+Int.toNat x.2.2.2.2.2.1+y.1.Ag.length+y.1.Items.length+1)+zb9 x.1)
def z4q (x:zFh) (y:Unit):Nat:=((x.1.length+Int.toNat x.2.1+Int.toNat x.2.2.1+Int.toNat x.2.2.2.1+1)+zb9 x.1)
def z4R (x:zFd) (y:Unit):Nat:=((x.1.length+Int.toNat x.2.1+Int.toNat x.2.2.1+1)+zb9 x.1)
def zu6 (zX:yC->Bool×Int):=zb3 base 71 [(109,(zqw zX))] [] [(3,(kpL [0,3,4])),(7,(kpL [0,3,4,5])),(12,(kpL [0,3,4,5,6,7])),(16,(kpL [0,3,4,5,6,8]))] [(3,1,(kpL [3])),(7,3,(kpL [0,3,4])),(12,5,(kpL [0,3,4,5,6])),(16,7,(kpL [0,3,4,5]))] [(12,spW z4P zXM (zFx zX) default z2H z3h),(16,spW z4P zXM (zFt zX) default z2y z3h),(7,spW z7x zZe (zHt zX) default z4x z4q),(3,spW z5F zZe (zHa zX) default zUS z4R)] []
theorem z2n (zX:yC->Bool×Int):zF (zu6 zX) (lp (body f109) 2):=zq (id:=12) (hl:=rfl)
theorem z2m (zX:yC->Bool×Int):zF (zu6 zX) (lp (body f109) 3):=zq (id:=16) (hl:=rfl)
theorem z33 (zX:yC->Bool×Int):zF (zu6 zX) (lp (body f109) 1):=zq (id:=7) (hl:=rfl)
theorem z5b (zX:yC->Bool×Int):zF (zu6 zX) (lp (body f109) 0):=zq (id:=3) (hl:=rfl)
def zUz (zX:yC->Bool×Int) (a:yC):Wy0 (Int):=.bn (zRu zX ((a.length+Int.toNat 0+Int.toNat 0+1)+zb9 a) a 0 0) λr10=>.k r10
def zG0 (zX:yC->Bool×Int) (a:yC):=(zUz zX a).fin default
theorem zZy (zX:yC->Bool×Int) (z8l:SdP 109 (zqw zX)):SdP 109 (zqw (zG0 zX)):=
 sT (cx':=(zu6 zX)) (zk ⟨z8l,trivial⟩) call109 func109 (lOK (aC (z5b zX) (aC (z33 zX) (aC (z2n zX) (aC (z2m zX) aN)))))
def z88:Nat->(yC->Bool×Int)
 | 0=>λ_=>(false,default)
 | n+1=>zG0 (z88 n)
def zxa (n:Nat):yC->Bool×Int:=z88 n
theorem z6L (n:Nat):zxa (n+1)=zG0 (zxa n):=rfl
theorem z3I:∀ n,SdP 109 (zqw (zxa n))
 | 0=>zbc call109 (λ_=>rfl)
 | n+1=>by
  have ih:=z3I n;exact zZy _ (ih)
def zVB:yC->Bool×Int:=zxa 1000
def zRa:Ab.Spec ty:=zqw zVB
theorem z44:SdP 109 zRa:=(z3I 1000)
abbrev zE9:=yC×Int×Int×Unit
abbrev zXs:=Bool⊕(yC×Int)
abbrev zFi:=yC×Int×Unit
def zzO (a:yC) (i:Int) (k:Int):Wy zE9 Unit zXs:=.i (decide (0<=i)&&decide (i<Int.ofNat a.length)) (.i (decide (k<Int.ofNat (a.getD i.toNat default).Fs.length)) (.i (decide (0<=i)&&decide (i<Int.ofNat a.length)) (.i (decide (0<=k)&&decide (k<Int.ofNat (a.getD i.toNat default).Fs.length)) (.i (decide (((a.getD i.toNat default).Fs.getD k.toNat default).Exp>64)) (.k (.inl false)) (.i (decide (0<=i)&&decide (i<Int.ofNat a.length)) (.i (decide (0<=k)&&decide (k<Int.ofNat (a.getD i.toNat default).Fs.length)) (.i (decide (Int.ofNat ((a.getD i.toNat default).Fs.getD k.toNat default).At.Items.length>1024)) (.k (.inl false)) (.h (a,i,(IntKind.i64.wrap (k+1)),()) ())) .d) .d)) .d) .d) (.k (.inr (a,i)))) .d
def zLZ (x:zE9) (y:Unit):=zzO x.1 x.2.1 x.2.2.1
def zXn (n:Nat) (a:yC) (i:Int) (k:Int):=zC (zLZ) (.inl default) n (a,i,k,()) ()
def z7C (r:zXs):LTree ty:=.ite (isL r) (.done .ret [.lit (.bool (getL r))] []) (.done (.exit 2) [.sl 28 (getR r).1,.lit (.int .i64 (getR r).2)] [])
def z99:LL ty zE9:=za (lSl 28) (za zj (za zj zl))
def zAd (a:yC) (i:Int):Wy zFi Unit (Bool⊕Unit):=.i (decide (i<Int.ofNat a.length)) (.i (decide (0<=i)&&decide (i<Int.ofNat a.length)) (.i (decide (Int.ofNat (a.getD i.toNat default).Fs.length>64)) (.k (.inl false)) (.bn (zXn ((a.length+i.toNat +Int.toNat 0+1)+zb9 a) a i 0) λr0=>.i (isL r0) (.k (.inl (getL r0))) (.h ((getR r0).1,(IntKind.i64.wrap ((getR r0).2+1)),()) ()))) .d) (.k (.inr ()))
def zMz (x:zFi) (y:Unit):=zAd x.1 x.2.1
def zXg (n:Nat) (a:yC) (i:Int):=zC (zMz) (.inl default) n (a,i,()) ()
def zbaz:LL ty zFi:=za (lSl 28) (za zj zl)
def z8O (x:zE9) (y:Unit):Nat:=((x.1.length+Int.toNat x.2.1+Int.toNat x.2.2.1+1)+zb9 x.1)
def z7D (x:zFi) (y:Unit):Nat:=((x.1.length+Int.toNat x.2.1+1)+zb9 x.1)
def zLP:=zb3 base 65 [(108,zKZ),(109,zRa)] [] [(4,(kpL [0,3])),(9,(kpL [0,3,4]))] [(4,1,[]),(4,0,(kpL [2])),(9,3,(kpL [0,3])),(9,0,(kpL [2]))] [(9,spW z99 zZe (zLZ) (.inl default) z7C z8O),(4,spW zbaz zZe (zMz) (.inl default) zSm z7D)] []
theorem z7N:zF zLP (lp (body f54) 1):=zq (id:=9) (hl:=rfl)
theorem z8u:zF zLP (lp (body f54) 0):=zq (id:=4) (hl:=rfl)
def z09 (a:yC):Wy0 (Bool):=.i (decide (Int.ofNat a.length>512)) (.k false) (.bn (zMa a) λr4=>.i (decide (r4>8)) (.k false) (.bn (zVB a) λr3=>.i (decide (r3>4096)) (.k false) (.bn (zXg ((a.length+Int.toNat 0+1)+zb9 a) a 0) λr2=>.i (isL r2) (.k (getL r2)) (.k true))))
def zDp (a:yC):=(z09 a).fin default
def zG2:=zi zZJ λx=>((zDp x.1).1,zYt (zDp x.1).2)
theorem zPX:SdP 54 zG2:=
 sT (cx':=zLP) (zk ⟨zXV,z44,trivial⟩) call54 func54 (lOK (aC z8u (aC z7N aN)))
abbrev zDz:=yC×Int×Unit×Int×Unit
abbrev zTL:=Bool⊕(yC×Int)
abbrev zDK:=yC×Int×Unit
def zqp (z8:At->Bool×Bool) (a:yC) (i:Int) (k:Int) (t:Term):Wy zDz (Term×Unit) zTL:=.i (decide (k<Int.ofNat t.Fs.length)) (.i (decide (0<=k)&&decide (k<Int.ofNat t.Fs.length)) (.i (decide ((t.Fs.getD k.toNat default).Exp<1)) (.k (.inl false)) (.i (decide ((t.Fs.getD k.toNat default).Exp>1)) (.i (decide ((t.Fs.getD k.toNat default).At.Kind≥3)) (.k (.inl false)) (.bn (z8 (At.mk (t.Fs.getD k.toNat default).At.Kind (t.Fs.getD k.toNat default).At.Row (t.Fs.getD k.toNat default).At.Ag (t.Fs.getD k.toNat default).At.Func (t.Fs.getD k.toNat default).At.Items (t.Fs.getD k.toNat default).At.Op (t.Fs.getD k.toNat default).At.Bd)) λr1=>.i (!r1) (.k (.inl false)) (.i (decide (k>0)) (.i (decide (0<=IntKind.i64.wrap (k - 1))&&decide (IntKind.i64.wrap (k - 1)<Int.ofNat t.Fs.length)) (.bn (zmM (At.mk (t.Fs.getD (IntKind.i64.wrap (k - 1)).toNat default).At.Kind (t.Fs.getD (IntKind.i64.wrap (k - 1)).toNat default).At.Row (t.Fs.getD (IntKind.i64.wrap (k - 1)).toNat default).At.Ag (t.Fs.getD (IntKind.i64.wrap (k - 1)).toNat default).At.Func (t.Fs.getD (IntKind.i64.wrap (k - 1)).toNat default).At.Items (t.Fs.getD (IntKind.i64.wrap (k - 1)).toNat default).At.Op (t.Fs.getD (IntKind.i64.wrap (k - 1)).toNat default).At.Bd) (At.mk (t.Fs.getD k.toNat default).At.Kind (t.Fs.getD k.toNat default).At.Row (t.Fs.getD k.toNat default).At.Ag (t.Fs.getD k.toNat default).At.Func (t.Fs.getD k.toNat default).At.Items (t.Fs.getD k.toNat default).At.Op (t.Fs.getD k.toNat default).At.Bd)) λr0=>.i (decide (r0≥0)) (.k (.inl false)) (.h (a,i,(),(IntKind.i64.wrap (k+1)),()) (t,()))) .d) (.h (a,i,(),(IntKind.i64.wrap (k+1)),()) (t,()))))) (.bn (z8 (At.mk (t.Fs.getD k.toNat default).At.Kind (t.Fs.getD k.toNat default).At.Row (t.Fs.getD k.toNat default).At.Ag (t.Fs.getD k.toNat default).At.Func (t.Fs.getD k.toNat default).At.Items (t.Fs.getD k.toNat default).At.Op (t.Fs.getD k.toNat default).At.Bd)) λr3=>.i (!r3) (.k (.inl false)) (.i (decide (k>0)) (.i (decide (0<=IntKind.i64.wrap (k - 1))&&decide (IntKind.i64.wrap (k - 1)<Int.ofNat t.Fs.length)) (.bn (zmM (At.mk (t.Fs.getD (IntKind.i64.wrap (k - 1)).toNat default).At.Kind (t.Fs.getD (IntKind.i64.wrap (k - 1)).toNat default).At.Row (t.Fs.getD (IntKind.i64.wrap (k - 1)).toNat default).At.Ag (t.Fs.getD (IntKind.i64.wrap (k - 1)).toNat default).At.Func (t.Fs.getD (IntKind.i64.wrap (k - 1)).toNat default).At.Items (t.Fs.getD (IntKind.i64.wrap (k - 1)).toNat default).At.Op (t.Fs.getD (IntKind.i64.wrap (k - 1)).toNat default).At.Bd) (At.mk (t.Fs.getD k.toNat default).At.Kind (t.Fs.getD k.toNat default).At.Row (t.Fs.getD k.toNat default).At.Ag (t.Fs.getD k.toNat default).At.Func (t.Fs.getD k.toNat default).At.Items (t.Fs.getD k.toNat default).At.Op (t.Fs.getD k.toNat default).At.Bd)) λr2=>.i (decide (r2≥0)) (.k (.inl false)) (.h (a,i,(),(IntKind.i64.wrap (k+1)),()) (t,()))) .d) (.h (a,i,(),(IntKind.i64.wrap (k+1)),()) (t,())))))) .d) (.k (.inr (a,i)))
def zEi (z8:At->Bool×Bool) (x:zDz) (y:Term×Unit):=zqp z8 x.1 x.2.1 x.2.2.2.1 y.1
def zEq (z8:At->Bool×Bool) (n:Nat) (a:yC) (i:Int) (k:Int) (t:Term):=zC (zEi z8) (.inl default) n (a,i,(),k,()) (t,())
def zYG (r:zTL):LTree ty:=.ite (isL r) (.done .ret [.lit (.bool (getL r))] []) (.done (.exit 2) [.sl 28 (getR r).1,.lit (.int .i64 (getR r).2)] [])
def z2p:LL ty zDz:=za (lSl 28) (za zj (za (zgc 372 0) (za zj zl)))
def zsz (z8:At->Bool×Bool) (a:yC) (i:Int):Wy zDK Unit (Bool⊕Unit):=.i (decide (i<Int.ofNat a.length)) (.i (decide (0<=i)&&decide (i<Int.ofNat a.length)) (.i (decide ((a.getD i.toNat default).Cf<1)) (.k (.inl false)) (.i (decide ((a.getD i.toNat default).Cf>1152921504606846976)) (.k (.inl false)) (.i (decide (i>0)) (.i (decide (0<=IntKind.i64.wrap (i - 1))&&decide (IntKind.i64.wrap (i - 1)<Int.ofNat a.length)) (.bn (zjs (a.getD (IntKind.i64.wrap (i - 1)).toNat default).Fs (a.getD i.toNat default).Fs) λr9=>.i (decide (r9≥0)) (.k (.inl false)) (.bn (zEq z8 ((a.length+i.toNat +Int.toNat 0+(a.getD i.toNat default).Fs.length+1)+zb9 a) a i 0 (a.getD i.toNat default)) λr8=>.i (isL r8) (.k (.inl (getL r8))) (.h ((getR r8).1,(IntKind.i64.wrap ((getR r8).2+1)),()) ()))) .d) (.bn (zEq z8 ((a.length+i.toNat +Int.toNat 0+(a.getD i.toNat default).Fs.length+1)+zb9 a) a i 0 (a.getD i.toNat default)) λr10=>.i (isL r10) (.k (.inl (getL r10))) (.h ((getR r10).1,(IntKind.i64.wrap ((getR r10).2+1)),()) ()))))) .d) (.k (.inr ()))
def zFw (z8:At->Bool×Bool) (x:zDK) (y:Unit):=zsz z8 x.1 x.2.1
def zOb (z8:At->Bool×Bool) (n:Nat) (a:yC) (i:Int):=zC (zFw z8) (.inl default) n (a,i,()) ()
def z4c:LL ty zDK:=za (lSl 28) (za zj zl)
def zZw (x:zDz) (y:Term×Unit):Nat:=((x.1.length+Int.toNat x.2.1+Int.toNat x.2.2.2.1+y.1.Fs.length+1)+zb9 x.1)
def z2s (x:zDK) (y:Unit):Nat:=((x.1.length+Int.toNat x.2.1+1)+zb9 x.1)
def zFj (z8:At->Bool×Bool):=zb3 base 93 [(34,zlF),(53,zvJ),(54,zG2),(55,(zoa z8))] [] [(4,(kpL [0,3])),(10,(kpL [0,3,4,5]))] [(4,1,[]),(4,0,(kpL [2])),(10,3,(kpL [0,3])),(10,0,(kpL [2]))] [(10,spW z2p zUD (zEi z8) (.inl default) zYG zZw),(4,spW z4c zZe (zFw z8) (.inl default) zSm z2s)] []
theorem z1d (z8:At->Bool×Bool):zF (zFj z8) (lp (body f16) 1):=zq (id:=10) (hl:=rfl)
theorem z3f (z8:At->Bool×Bool):zF (zFj z8) (lp (body f16) 0):=zq (id:=4) (hl:=rfl)
def zRN (z8:At->Bool×Bool) (a:yC):Wy0 (Bool):=.bn (zDp a) λr15=>.i (!r15) (.k false) (.bn (zOb z8 ((a.length+Int.toNat 0+1)+zb9 a) a 0) λr14=>.i (isL r14) (.k (getL r14)) (.k true))
def zAf (z8:At->Bool×Bool) (a:yC):=(zRN z8 a).fin default
theorem zYh (z8:At->Bool×Bool) (zXD:SdP 55 (zoa z8)):SdP 16 (ziH (zAf z8)):=
 sT (cx':=(zFj z8)) (zk ⟨zp2,zDU,zPX,zXD,trivial⟩) call16 func16 (lOK (aC (z3f z8) (aC (z1d z8) aN)))
def zbaw:=zbt base 9 [(89,zKw)]
def zZc (a:yC) (b:yC):Wy0 (Bool):=.bn (zLO a b) λr0=>.k (r0==0)
def zuv (a:yC) (b:yC):=(zZc a b).fin default
def zGT:=zi z6l λx=>((zuv x.1 x.2.1).1,zYt (zuv x.1 x.2.1).2)
theorem zOu:SdP 30 zGT:=
 sT (cx':=zbaw) (zk ⟨zXJ,trivial⟩) call30 func30 (lOK aN)
def z5A:=zbt base 42 []
def zUb (a:yC):Wy0 (Bool):=.i (Int.ofNat a.length==1) (.i (decide ((0:Int)<=(0:Int))&&decide (0<Int.ofNat a.length)) (.i ((a.getD (Int.toNat 0) default).Cf==1) (.i (decide ((0:Int)<=(0:Int))&&decide (0<Int.ofNat a.length)) (.i (Int.ofNat (a.getD (Int.toNat 0) default).Fs.length==1) (.i (decide ((0:Int)<=(0:Int))&&decide (0<Int.ofNat a.length)) (.i (decide ((0:Int)<=(0:Int))&&decide (0<Int.ofNat (a.getD (Int.toNat 0) default).Fs.length)) (.i (decide (((a.getD (Int.toNat 0) default).Fs.getD (Int.toNat 0) default).At.Kind≥2)) (.i (decide ((0:Int)<=(0:Int))&&decide (0<Int.ofNat a.length)) (.i (decide ((0:Int)<=(0:Int))&&decide (0<Int.ofNat (a.getD (Int.toNat 0) default).Fs.length)) (.k (((a.getD (Int.toNat 0) default).Fs.getD (Int.toNat 0) default).Exp==1)) .d) .d) (.k false)) .d) .d) (.k false)) .d) (.k false)) .d) (.k false)
def zsh (a:yC):=(zUb a).fin default
def zEn:=zi zZJ λx=>((zsh x.1).1,zYt (zsh x.1).2)
theorem zLv:SdP 99 zEn:=
 sT (cx':=z5A) (zk trivial) call99 func99 (lOK aN)
abbrev zEd:=yC×Int×Unit
def zqv (a:yC) (i:Int):Wy zEd Unit (Bool⊕Unit):=.i (decide (i<Int.ofNat a.length)) (.i (decide (0<=i)&&decide (i<Int.ofNat a.length)) (.i (Int.ofNat (a.getD i.toNat default).Fs.length==0) (.k (.inl true)) (.h (a,(IntKind.i64.wrap (i+1)),()) ())) .d) (.k (.inr ()))
def zEk (x:zEd) (y:Unit):=zqv x.1 x.2.1
def zMK (n:Nat) (a:yC) (i:Int):=zC (zEk) (.inl default) n (a,i,()) ()
def z2E:LL ty zEd:=za (lSl 28) (za zj zl)
def zMM:=zb3 base 17 [] [] [(2,(kpL [0,3]))] [(2,1,[]),(2,0,(kpL [2]))] [(2,spW z2E zZe (zEk) (.inl default) zSm λx y=>(x.1.length+Int.toNat x.2.1+1))] []
theorem z0a:zF zMM (lp (body f100) 0):=zq (id:=2) (hl:=rfl)
def zOo (a:yC):Wy0 (Bool):=.bn (zMK (a.length+Int.toNat 0+1) a 0) λr0=>.i (isL r0) (.k (getL r0)) (.k false)
def zjx (a:yC):=(zOo a).fin default
def zAL:=zi zZJ λx=>((zjx x.1).1,zYt (zjx x.1).2)
theorem zHo:SdP 100 zAL:=
 sT (cx':=zMM) (zk trivial) call100 func100 (lOK (aC z0a aN))
def z7P:=zbt base 36 []
def zW1 (v:Value):Wy0 (Bool):=.i (v.Kind==0) (.k (v.Text.toList==(ByteArray.mk #[]).toList)) (.i (v.Kind==1) (.i (v.Int==0) (.k (decide (Int.ofNat v.Text.size<=255))) (.k false)) (.i (v.Kind==2) (.i (v.Text.toList==(ByteArray.mk #[]).toList) (.i (v.Int==0) (.k true) (.k (v.Int==1))) (.k false)) (.k false)))
def zAC (v:Value):=(zW1 v).fin default
def zPy:=zi zbad λx=>((zAC x.1).1,zYt (zAC x.1).2)
theorem z2f:SdP 158 zPy:=
 sT (cx':=z7P) (zk trivial) call158 func158 (lOK aN)
abbrev zDr:=Int×yE×Unit×Int×Unit
def zxO (fn:Int) (items:yE) (i:Int) (bound:Value):Wy zDr (Value×Unit) (Bool⊕Unit):=.i (decide (i<Int.ofNat items.length)) (.i (decide (0<=i)&&decide (i<Int.ofNat items.length)) (.bn (zAC (items.getD i.toNat default).Value) λr0=>.i (!r0) (.k (.inl false)) (.i ((items.getD i.toNat default).Value.Kind != bound.Kind) (.k (.inl false)) (.i (fn==0) (.i ((items.getD i.toNat default).Value.Int != 1) (.k (.inl false)) (.h (fn,items,(),(IntKind.i64.wrap (i+1)),()) (bound,()))) (.h (fn,items,(),(IntKind.i64.wrap (i+1)),()) (bound,()))))) .d) (.k (.inr ()))
def zJs (x:zDr) (y:Value×Unit):=zxO x.1 x.2.1 x.2.2.2.1 y.1
def zJQ (n:Nat) (fn:Int) (items:yE) (i:Int) (bound:Value):=zC (zJs) (.inl default) n (fn,items,(),i,()) (bound,())
def z7Q:LL ty zDr:=za zj (za (lSl 100) (za (zgc 276 0) (za zj zl)))
def z8P:BL ty (Value×Unit):=zj7 (zh1 (λx=>(⟨x.1,x.2.1,x.2.2.1⟩:Value)) (λx=>(x.Kind,x.Int,x.Text,())) (λ_=>rfl) (za (zT .i64) (za (zT .i64) (za zsR zl)))) false (zbe)
def z6M (x:zDr) (y:Value×Unit):Nat:=(Int.toNat x.1+x.2.1.length+Int.toNat x.2.2.2.1+1)
def zT7:=zb3 base 69 [(158,zPy)] [] [(4,(kpL [0,1,7,9]))] [(4,1,[]),(4,0,(kpL [8]))] [(4,spW z7Q z8P (zJs) (.inl default) zSm z6M)] []
theorem z67:zF zT7 (lp (body f111) 0):=zq (id:=4) (hl:=rfl)
def zWU (fn:Int) (items:yE) (op:Int) (bound:Value):Wy0 (Bool):=.i (decide (fn<0)) (.k false) (.i (decide (fn>3)) (.k false) (.i (decide (op<5)) (.k false) (.i (decide (op>10)) (.k false) (.bn (zAC bound) λr4=>.i (!r4) (.k false) (.i (decide (fn<=1)) (.i (bound.Kind != 0) (.k false) (.bn (zJQ (fn.toNat +items.length+Int.toNat 0+1) fn items 0 bound) λr2=>.i (isL r2) (.k (getL r2)) (.k true))) (.bn (zJQ (fn.toNat +items.length+Int.toNat 0+1) fn items 0 bound) λr3=>.i (isL r3) (.k (getL r3)) (.k true)))))))
def zAF (fn:Int) (items:yE) (op:Int) (bound:Value):=(zWU fn items op bound).fin default
def zOD:=zi zWE λx=>((zAF x.1 x.2.1 x.2.2.1 x.2.2.2.1).1,zYt (zAF x.1 x.2.1 x.2.2.1 x.2.2.2.1).2)
theorem z2c:SdP 111 zOD:=
 sT (cx':=zT7) (zk ⟨z2f,trivial⟩) call111 func111 (lOK (aC z67 aN))
def z8d:=zbt base 23 []
def zW3 (x_:At):Wy0 (Bool):=.i (x_.Func==0) (.i (Int.ofNat x_.Items.length==0) (.i (x_.Op==0) (.k (x_.Bd.Kind==0&&(x_.Bd.Int==0&&(x_.Bd.Text.toList==(ByteArray.mk #[]).toList&&true)))) (.k false)) (.k false)) (.k false)
def zrm (x_:At):=(zW3 x_).fin default
def zOc:=zi zE5 λx=>((zrm x.1).1,zYt (zrm x.1).2)
theorem z3e:SdP 110 zOc:=
 sT (cx':=z8d) (zk trivial) call110 func110 (lOK aN)
abbrev zgH:=Unit×Int×Unit
def zmv (zbA:yC->Bool×Bool) (i:Int) (x_:At):Wy zgH (At×Unit) (Bool⊕At):=.i (decide (i<Int.ofNat x_.Ag.length)) (.i (decide (0<=i)&&decide (i<Int.ofNat x_.Ag.length)) (.i (Int.ofNat (List.length (x_.Ag.getD i.toNat default))==0) (.k (.inl false)) (.i (decide (0<=i)&&decide (i<Int.ofNat x_.Ag.length)) (.bn (zbA (x_.Ag.getD i.toNat default)) λr0=>.i (!r0) (.k (.inl false)) (.h ((),(IntKind.i64.wrap (i+1)),()) (x_,()))) .d)) .d) (.k (.inr x_))
def zyS (zbA:yC->Bool×Bool) (x:zgH) (y:At×Unit):=zmv zbA x.2.1 y.1
def zyU (zbA:yC->Bool×Bool) (n:Nat) (i:Int) (x_:At):=zC (zyS zbA) (.inl default) n ((),i,()) (x_,())
def zUd (r:Bool⊕At):LTree ty:=.ite (isL r) (.done .ret [.lit (.bool (getL r))] []) (.done (.exit 0) [.ptr 824 0] [.box (base.enc 67 (getR r)) false])
def zVl:LL ty zgH:=za (zgc 824 0) (za zj zl)
def zll (zbA:yC->Bool×Bool) (i:Int) (x_:At):Wy zgH (At×Unit) (Bool⊕Unit):=.i (decide (i<Int.ofNat x_.Items.length)) (.i (decide (0<=i)&&decide (i<Int.ofNat x_.Items.length)) (.i (Int.ofNat (x_.Items.getD i.toNat default).Ann.length==0) (.k (.inl false)) (.i (decide (0<=i)&&decide (i<Int.ofNat x_.Items.length)) (.bn (zbA (x_.Items.getD i.toNat default).Ann) λr3=>.i (!r3) (.k (.inl false)) (.i (decide (i>0)) (.i (decide (0<=IntKind.i64.wrap (i - 1))&&decide (IntKind.i64.wrap (i - 1)<=i)&&decide (i<=Int.ofNat x_.Items.length)) (.i (decide (0<=i)&&decide (i<=IntKind.i64.wrap (i+1))&&decide (IntKind.i64.wrap (i+1)<=Int.ofNat x_.Items.length)) (.bn (zuL (List.take (i.toNat - (IntKind.i64.wrap (i - 1)).toNat) (List.drop (IntKind.i64.wrap (i - 1)).toNat x_.Items)) (List.take ((IntKind.i64.wrap (i+1)).toNat - i.toNat) (List.drop i.toNat x_.Items))) λr2=>.i (decide (r2>0)) (.k (.inl false)) (.h ((),(IntKind.i64.wrap (i+1)),()) (x_,()))) .d) .d) (.h ((),(IntKind.i64.wrap (i+1)),()) (x_,())))) .d)) .d) (.k (.inr ()))
def zxc (zbA:yC->Bool×Bool) (x:zgH) (y:At×Unit):=zll zbA x.2.1 y.1
def zFD (zbA:yC->Bool×Bool) (n:Nat) (i:Int) (x_:At):=zC (zxc zbA) (.inl default) n ((),i,()) (x_,())
def zSM (r:Bool⊕Unit):LTree ty:=.ite (isL r) (.done .ret [.lit (.bool (getL r))] []) (.done (.exit 3) [] [])
def zTK (x:zgH) (y:At×Unit):Nat:=(Int.toNat x.2.1+y.1.Ag.length+y.1.Items.length+1)
def zyP (zbA:yC->Bool×Bool):=zb3 base 206 [(16,(ziH zbA)),(30,zGT),(99,zEn),(100,zAL),(106,zDQ),(110,zOc),(111,zOD)] [] [(6,(kpL [1,3])),(21,(kpL [1,4]))] [(6,1,(kpL [1])),(6,0,(kpL [2])),(21,4,[]),(21,0,(kpL [2]))] [(6,spW zVl zXM (zyS zbA) (.inl default) zUd zTK),(21,spW zVl zXM (zxc zbA) (.inl default) zSM zTK)] []
theorem zTS (zbA:yC->Bool×Bool):zF (zyP zbA) (lp (body f55) 0):=zq (id:=6) (hl:=rfl)
theorem zRT (zbA:yC->Bool×Bool):zF (zyP zbA) (lp (body f55) 1):=zq (id:=21) (hl:=rfl)
def zIw (zbA:yC->Bool×Bool) (x_:At):Wy0 (Bool):=.i (x_.Kind==0) (.i (decide (x_.Row.Table≥1)) (.i (decide (x_.Row.Seq≥1)) (.i (Int.ofNat x_.Ag.length==0) (.bn (zrm (At.mk x_.Kind x_.Row x_.Ag x_.Func x_.Items x_.Op x_.Bd)) λr6=>.k r6) (.k false)) (.k false)) (.k false)) (.i (!(x_.Row.Table==0&&(x_.Row.Seq==0&&true))) (.k false) (.bn (zyU zbA (Int.toNat 0+x_.Ag.length+x_.Items.length+1) 0 (At.mk x_.Kind x_.Row x_.Ag x_.Func x_.Items x_.Op x_.Bd)) λr17=>.i (isL r17) (.k (getL r17)) (.i ((getR r17).Kind==1) (.i (Int.ofNat (getR r17).Ag.length==2) (.bn (zrm (At.mk (getR r17).Kind (getR r17).Row (getR r17).Ag (getR r17).Func (getR r17).Items (getR r17).Op (getR r17).Bd)) λr8=>.i (r8) (.i (decide ((0:Int)<=(0:Int))&&decide (0<Int.ofNat (getR r17).Ag.length)) (.i (decide ((0:Int)<=(1:Int))&&decide (1<Int.ofNat (getR r17).Ag.length)) (.bn (zuv ((getR r17).Ag.getD (Int.toNat 0) default) ((getR r17).Ag.getD (Int.toNat 1) default)) λr7=>.k (!r7)) .d) .d) (.k false)) (.k false)) (.i ((getR r17).Kind==2) (.i (Int.ofNat (getR r17).Ag.length==1) (.bn (zrm (At.mk (getR r17).Kind (getR r17).Row (getR r17).Ag (getR r17).Func (getR r17).Items (getR r17).Op (getR r17).Bd)) λr12=>.i (r12) (.i (decide ((0:Int)<=(0:Int))&&decide (0<Int.ofNat (getR r17).Ag.length)) (.i (Int.ofNat (List.length ((getR r17).Ag.getD (Int.toNat 0) default))==1) (.i (decide ((0:Int)<=(0:Int))&&decide (0<Int.ofNat (getR r17).Ag.length)) (.bn (zjx ((getR r17).Ag.getD (Int.toNat 0) default)) λr10=>.i (!r10) (.i (decide ((0:Int)<=(0:Int))&&decide (0<Int.ofNat (getR r17).Ag.length)) (.bn (zsh ((getR r17).Ag.getD (Int.toNat 0) default)) λr9=>.k (!r9)) .d) (.k false)) .d) (.i (decide ((0:Int)<=(0:Int))&&decide (0<Int.ofNat (getR r17).Ag.length)) (.bn (zsh ((getR r17).Ag.getD (Int.toNat 0) default)) λr11=>.k (!r11)) .d)) .d) (.k false)) (.k false)) (.i ((getR r17).Kind==3) (.i (Int.ofNat (getR r17).Ag.length==1) (.bn (zrm (At.mk (getR r17).Kind (getR r17).Row (getR r17).Ag (getR r17).Func (getR r17).Items (getR r17).Op (getR r17).Bd)) λr14=>.i (r14) (.i (decide ((0:Int)<=(0:Int))&&decide (0<Int.ofNat (getR r17).Ag.length)) (.bn (zjx ((getR r17).Ag.getD (Int.toNat 0) default)) λr13=>.k (!r13)) .d) (.k false)) (.k false)) (.i ((getR r17).Kind==4) (.i (Int.ofNat (getR r17).Ag.length != 0) (.k false) (.i (Int.ofNat (getR r17).Items.length==0) (.k false) (.i (decide (Int.ofNat (getR r17).Items.length>1024)) (.k false) (.bn (zAF (getR r17).Func (getR r17).Items (getR r17).Op (getR r17).Bd) λr16=>.i (!r16) (.k false) (.bn (zFD zbA (Int.toNat 0+(getR r17).Ag.length+(getR r17).Items.length+1) 0 (At.mk (getR r17).Kind (getR r17).Row (getR r17).Ag (getR r17).Func (getR r17).Items (getR r17).Op (getR r17).Bd)) λr15=>.i (isL r15) (.k (getL r15)) (.k true)))))) (.k false)))))))
def zqe (zbA:yC->Bool×Bool) (x_:At):=(zIw zbA x_).fin default
theorem zQJ (zbA:yC->Bool×Bool) (z6b:SdP 16 (ziH zbA)):SdP 55 (zoa (zqe zbA)):=
 sT (cx':=(zyP zbA)) (zk ⟨z6b,zOu,zLv,zHo,zO6,z3e,z2c,trivial⟩) call55 func55 (lOK (aC (zTS zbA) (aC (zRT zbA) aN)))
def zM5:Nat->(yC->Bool×Bool)×(At->Bool×Bool)
 | 0=>(λ_=>(false,default),λ_=>(false,default))
 | n+1=>(zAf ((zM5 n).2),zqe ((zM5 n).1))
def zAq (n:Nat):yC->Bool×Bool:=(zM5 n).1
def zwC (n:Nat):At->Bool×Bool:=(zM5 n).2
theorem z35 (n:Nat):zAq (n+1)=zAf (zwC n):=rfl
theorem zVM (n:Nat):zwC (n+1)=zqe (zAq n):=rfl
theorem zZR:∀ n,SdP 16 (ziH (zAq n))/\SdP 55 (zoa (zwC n))
 | 0=>⟨zbc call16 (λ_=>rfl),zbc call55 (λ_=>rfl)⟩
 | n+1=>by
  have ih:=zZR n;exact ⟨zYh _ (ih.2),zQJ _ (ih.1)⟩
def zgv:yC->Bool×Bool:=zAq 1000
def zPz:Ab.Spec ty:=ziH zgv
theorem z2A:SdP 16 zPz:=(zZR 1000).1
def zbb1:=zbt base 3 []
def zbdh:Wy0 (yC):=.k [TO.mk 1 []]
def zLk:Bool×yC:=(zbdh).fin default
def zTg:=zi zR4 λx=>((zLk ).1,zSe (zLk ).2)
theorem z7a:SdP 77 zTg:=
 sT (cx':=zbb1) (zk trivial) call77 func77 (lOK aN) (sg:=⟨[.own 28],[]⟩)
def zbbn:=zbt base 8 [(54,zG2)]
def z3N (a:yC):Wy0 (yC×Int):=.bn (zDp a) λr0=>.i (!r0) (.k ([],6)) (.k (a,0))
def zoJ (a:yC):=(z3N a).fin default
def zbat (r:yC×Int):ARes ty:=⟨[.pure (.sl 28 r.1),.pure (.lit (.int .i64 r.2))],[]⟩
def zUR:=zi zZJ λx=>((zoJ x.1).1,zbat (zoJ x.1).2)
theorem z6Q:SdP 101 zUR:=
 sT (cx':=zbbn) (zk ⟨zPX,trivial⟩) call101 func101 (lOK aN) (sg:=⟨[.pure,.pure],[]⟩)
def z8F:=zbt base 30 [(16,zPz),(77,zTg),(99,zEn),(100,zAL),(101,zUR),(102,zG1)]
def zLX (a:yC):Wy0 (yC×Int):=.bn (zgv a) λr4=>.i (!r4) (.k ([],1)) (.i (Int.ofNat a.length==0) (.k (a,0)) (.bn (zsh a) λr3=>.i (r3) (.k (a,0)) (.i (Int.ofNat a.length==1) (.bn (zjx a) λr1=>.i (r1) (.k (zLk.2,0)) (.bn (zoJ (zoc (At.mk 2 (RowID.mk 0 0) [a] 0 [] 0 (Value.mk 0 0 (ByteArray.mk #[])))).2) λr0=>.k (r0.1,r0.2))) (.bn (zoJ (zoc (At.mk 2 (RowID.mk 0 0) [a] 0 [] 0 (Value.mk 0 0 (ByteArray.mk #[])))).2) λr2=>.k (r2.1,r2.2)))))
def zvN (a:yC):=(zLX a).fin default
def zP8:=zi zZJ λx=>((zvN x.1).1,zbat (zvN x.1).2)
theorem z2Z:SdP 47 zP8:=
 sT (cx':=z8F) (zk ⟨z2A,z7a,zLv,zHo,z6Q,zQb,trivial⟩) call47 func47 (lOK aN) (sg:=⟨[.pure,.pure],[]⟩)
def z9W:=zbt base 9 []
def zZP (a:Int) (b:Int):Wy0 (Int):=.k (if 1152921504606846976<IntKind.i64.wrap (a+b) then 1152921504606846976 else IntKind.i64.wrap (a+b))
def zzm (a:Int) (b:Int):=(zZP a b).fin default
def zRc:=zi z8x λx=>((zzm x.1 x.2.1).1,z2L (zzm x.1 x.2.1).2)
theorem z4O:SdP 112 zRc:=
 sT (cx':=z9W) (zk trivial) call112 func112 (lOK aN)
abbrev zGZ:=yC×Unit×Int×Unit
abbrev zZ0:=yC×Int×Term
def zCn (a:yC) (i:Int) (t:Term):Wy zGZ (Term×Unit) zZ0:=.i (decide (i<Int.ofNat a.length)) (.i (decide (0<=i)&&decide (i<Int.ofNat a.length)) (.bn (zjs (a.getD i.toNat default).Fs t.Fs) λr0=>.i (decide (r0<0)) (.h (a,(),(IntKind.i64.wrap (i+1)),()) (t,())) (.k (a,i,t))) .d) (.k (a,i,t))
def zQe (x:zGZ) (y:Term×Unit):=zCn x.1 x.2.2.1 y.1
def z06 (n:Nat) (a:yC) (i:Int) (t:Term):=zC (zQe) default n (a,(),i,()) (t,())
def zbaj (r:zZ0):LTree ty:=.done (.exit 0) [.sl 28 r.1,.ptr 288 0,.lit (.int .i64 r.2.1)] [.box (base.enc 28 r.2.2) false]
def zbbr:LL ty zGZ:=za (lSl 28) (za (zgc 288 0) (za zj zl))
def zbaD (x:zGZ) (y:Term×Unit):Nat:=(x.1.length+Int.toNat x.2.2.1+y.1.Fs.length+1)
def zZT:=zb3 base 72 [(34,zlF),(112,zRc)] [] [(2,(kpL [0,3,5]))] [(2,1,(kpL [0,3,5]))] [(2,spW zbbr zUD (zQe) default zbaj zbaD)] []
theorem z9R:zF zZT (lp (body f58) 0):=zq (id:=2) (hl:=rfl)
def z3D (a:yC) (t:Term):Wy0 (yC):=.bn (z06 (a.length+Int.toNat 0+t.Fs.length+1) a 0 t) λr3=>.i (decide ((0:Int)<=(0:Int))&&decide (0<=r3.2.1)&&decide (r3.2.1<=Int.ofNat r3.1.length)) (.i (decide ((0+(List.take (r3.2.1.toNat - Int.toNat 0) (List.drop (Int.toNat 0) r3.1)).length)*32<=zO)) (.i (decide (r3.2.1<Int.ofNat r3.1.length)) (.i (decide (0<=r3.2.1)&&decide (r3.2.1<Int.ofNat r3.1.length)) (.bn (zjs (r3.1.getD r3.2.1.toNat default).Fs r3.2.2.Fs) λr2=>.i (r2==0) (.i (decide (0<=r3.2.1)&&decide (r3.2.1<Int.ofNat r3.1.length)) (.i (decide ((([]++List.take (r3.2.1.toNat - Int.toNat 0) (List.drop (Int.toNat 0) r3.1)).length+[TO.mk (zzm (r3.1.getD r3.2.1.toNat default).Cf r3.2.2.Cf).2 r3.2.2.Fs].length)*32<=zO)) (.i (decide (0<=IntKind.i64.wrap (r3.2.1+1))&&decide (IntKind.i64.wrap (r3.2.1+1)<=Int.ofNat r3.1.length)&&decide (Int.ofNat r3.1.length<=Int.ofNat r3.1.length)) (.i (decide ((([]++List.take (r3.2.1.toNat - Int.toNat 0) (List.drop (Int.toNat 0) r3.1)++[TO.mk (zzm (r3.1.getD r3.2.1.toNat default).Cf r3.2.2.Cf).2 r3.2.2.Fs]).length+(List.take ((Int.ofNat r3.1.length).toNat - (IntKind.i64.wrap (r3.2.1+1)).toNat) (List.drop (IntKind.i64.wrap (r3.2.1+1)).toNat r3.1)).length)*32<=zO)) (.k ([]++List.take (r3.2.1.toNat - Int.toNat 0) (List.drop (Int.toNat 0) r3.1)++[TO.mk (zzm (r3.1.getD r3.2.1.toNat default).Cf r3.2.2.Cf).2 r3.2.2.Fs]++List.take ((Int.ofNat r3.1.length).toNat - (IntKind.i64.wrap (r3.2.1+1)).toNat) (List.drop (IntKind.i64.wrap (r3.2.1+1)).toNat r3.1))) .d) .d) .d) .d) (.i (decide ((([]++List.take (r3.2.1.toNat - Int.toNat 0) (List.drop (Int.toNat 0) r3.1)).length+[r3.2.2].length)*32<=zO)) (.i (decide (0<=r3.2.1)&&decide (r3.2.1<=Int.ofNat r3.1.length)&&decide (Int.ofNat r3.1.length<=Int.ofNat r3.1.length)) (.i (decide ((([]++List.take (r3.2.1.toNat - Int.toNat 0) (List.drop (Int.toNat 0) r3.1)++[r3.2.2]).length+(List.take ((Int.ofNat r3.1.length).toNat - r3.2.1.toNat) (List.drop r3.2.1.toNat r3.1)).length)*32<=zO)) (.k ([]++List.take (r3.2.1.toNat - Int.toNat 0) (List.drop (Int.toNat 0) r3.1)++[r3.2.2]++List.take ((Int.ofNat r3.1.length).toNat - r3.2.1.toNat) (List.drop r3.2.1.toNat r3.1))) .d) .d) .d)) .d) (.i (decide ((([]++List.take (r3.2.1.toNat - Int.toNat 0) (List.drop (Int.toNat 0) r3.1)).length+[r3.2.2].length)*32<=zO)) (.i (decide (0<=r3.2.1)&&decide (r3.2.1<=Int.ofNat r3.1.length)&&decide (Int.ofNat r3.1.length<=Int.ofNat r3.1.length)) (.i (decide ((([]++List.take (r3.2.1.toNat - Int.toNat 0) (List.drop (Int.toNat 0) r3.1)++[r3.2.2]).length+(List.take ((Int.ofNat r3.1.length).toNat - r3.2.1.toNat) (List.drop r3.2.1.toNat r3.1)).length)*32<=zO)) (.k ([]++List.take (r3.2.1.toNat - Int.toNat 0) (List.drop (Int.toNat 0) r3.1)++[r3.2.2]++List.take ((Int.ofNat r3.1.length).toNat - r3.2.1.toNat) (List.drop r3.2.1.toNat r3.1))) .d) .d) .d)) .d) .d
def zFT (a:yC) (t:Term):=(z3D a t).fin default
def zbc8:AL base (yC×Term×Unit):=ze (zf (vSl 28)) (ze (zf (zcV 28)) zu)
def zJG:=zi zbc8 λx=>((zFT x.1 x.2.1).1,zSe (zFT x.1 x.2.1).2)
theorem zRO:SdP 58 zJG:=
 sT (cx':=zZT) (zk ⟨zp2,z4O,trivial⟩) call58 func58 (lOK (aC z9R aN)) (sg:=⟨[.own 28],[]⟩)
abbrev zBt:=yD×Unit×Int×Unit
abbrev zRL:=yD×Int×Fc
def zuR (l:yD) (i:Int) (f:Fc):Wy zBt (Fc×Unit) zRL:=.i (decide (i<Int.ofNat l.length)) (.i (decide (0<=i)&&decide (i<Int.ofNat l.length)) (.bn (zmM (At.mk (l.getD i.toNat default).At.Kind (l.getD i.toNat default).At.Row (l.getD i.toNat default).At.Ag (l.getD i.toNat default).At.Func (l.getD i.toNat default).At.Items (l.getD i.toNat default).At.Op (l.getD i.toNat default).At.Bd) (At.mk f.At.Kind f.At.Row f.At.Ag f.At.Func f.At.Items f.At.Op f.At.Bd)) λr0=>.i (decide (r0<0)) (.h (l,(),(IntKind.i64.wrap (i+1)),()) (f,())) (.k (l,i,f))) .d) (.k (l,i,f))
def zHu (x:zBt) (y:Fc×Unit):=zuR x.1 x.2.2.1 y.1
def zRM (n:Nat) (l:yD) (i:Int) (f:Fc):=zC (zHu) default n (l,(),i,()) (f,())
def z4L (r:zRL):LTree ty:=.done (.exit 0) [.sl 69 r.1,.ptr 296 0,.lit (.int .i64 r.2.1)] [.box (base.enc 69 r.2.2) false]
def z6G:LL ty zBt:=za (lSl 69) (za (zgc 296 0) (za zj zl))
def z4H (x:zBt) (y:Fc×Unit):Nat:=(x.1.length+Int.toNat x.2.2.1+y.1.At.Ag.length+y.1.At.Items.length+1)
def zRt:=zb3 base 74 [(53,zvJ)] [] [(2,(kpL [0,3,5]))] [(2,1,(kpL [0,3,5]))] [(2,spW z6G zTU (zHu) default z4L z4H)] []
theorem z4a:zF zRt (lp (body f57) 0):=zq (id:=2) (hl:=rfl)
def zTP (l:yD) (f:Fc):Wy0 (yD):=.bn (zRM (l.length+Int.toNat 0+f.At.Ag.length+f.At.Items.length+1) l 0 (FO.mk (At.mk f.At.Kind f.At.Row f.At.Ag f.At.Func f.At.Items f.At.Op f.At.Bd) f.Exp)) λr3=>.i (decide ((0:Int)<=(0:Int))&&decide (0<=r3.2.1)&&decide (r3.2.1<=Int.ofNat r3.1.length)) (.i (decide ((0+(List.take (r3.2.1.toNat - Int.toNat 0) (List.drop (Int.toNat 0) r3.1)).length)*128<=zO)) (.i (decide (r3.2.1<Int.ofNat r3.1.length)) (.i (decide (0<=r3.2.1)&&decide (r3.2.1<Int.ofNat r3.1.length)) (.bn (zmM (At.mk (r3.1.getD r3.2.1.toNat default).At.Kind (r3.1.getD r3.2.1.toNat default).At.Row (r3.1.getD r3.2.1.toNat default).At.Ag (r3.1.getD r3.2.1.toNat default).At.Func (r3.1.getD r3.2.1.toNat default).At.Items (r3.1.getD r3.2.1.toNat default).At.Op (r3.1.getD r3.2.1.toNat default).At.Bd) (At.mk r3.2.2.At.Kind r3.2.2.At.Row r3.2.2.At.Ag r3.2.2.At.Func r3.2.2.At.Items r3.2.2.At.Op r3.2.2.At.Bd)) λr2=>.i (r2==0) (.i (decide (r3.2.2.At.Kind<3)) (.i (decide (0<=r3.2.1)&&decide (r3.2.1<Int.ofNat r3.1.length)) (.i (decide ((([]++List.take (r3.2.1.toNat - Int.toNat 0) (List.drop (Int.toNat 0) r3.1)).length+[FO.mk (At.mk r3.2.2.At.Kind r3.2.2.At.Row r3.2.2.At.Ag r3.2.2.At.Func r3.2.2.At.Items r3.2.2.At.Op r3.2.2.At.Bd) (IntKind.i64.wrap ((r3.1.getD r3.2.1.toNat default).Exp+r3.2.2.Exp))].length)*128<=zO)) (.i (decide (0<=IntKind.i64.wrap (r3.2.1+1))&&decide (IntKind.i64.wrap (r3.2.1+1)<=Int.ofNat r3.1.length)&&decide (Int.ofNat r3.1.length<=Int.ofNat r3.1.length)) (.i (decide ((([]++List.take (r3.2.1.toNat - Int.toNat 0) (List.drop (Int.toNat 0) r3.1)++[FO.mk (At.mk r3.2.2.At.Kind r3.2.2.At.Row r3.2.2.At.Ag r3.2.2.At.Func r3.2.2.At.Items r3.2.2.At.Op r3.2.2.At.Bd) (IntKind.i64.wrap ((r3.1.getD r3.2.1.toNat default).Exp+r3.2.2.Exp))]).length+(List.take ((Int.ofNat r3.1.length).toNat - (IntKind.i64.wrap (r3.2.1+1)).toNat) (List.drop (IntKind.i64.wrap (r3.2.1+1)).toNat r3.1)).length)*128<=zO)) (.k ([]++List.take (r3.2.1.toNat - Int.toNat 0) (List.drop (Int.toNat 0) r3.1)++[FO.mk (At.mk r3.2.2.At.Kind r3.2.2.At.Row r3.2.2.At.Ag r3.2.2.At.Func r3.2.2.At.Items r3.2.2.At.Op r3.2.2.At.Bd) (IntKind.i64.wrap ((r3.1.getD r3.2.1.toNat default).Exp+r3.2.2.Exp))]++List.take ((Int.ofNat r3.1.length).toNat - (IntKind.i64.wrap (r3.2.1+1)).toNat) (List.drop (IntKind.i64.wrap (r3.2.1+1)).toNat r3.1))) .d) .d) .d) .d) (.i (decide ((([]++List.take (r3.2.1.toNat - Int.toNat 0) (List.drop (Int.toNat 0) r3.1)).length+[FO.mk (At.mk r3.2.2.At.Kind r3.2.2.At.Row r3.2.2.At.Ag r3.2.2.At.Func r3.2.2.At.Items r3.2.2.At.Op r3.2.2.At.Bd) r3.2.2.Exp].length)*128<=zO)) (.i (decide (0<=IntKind.i64.wrap (r3.2.1+1))&&decide (IntKind.i64.wrap (r3.2.1+1)<=Int.ofNat r3.1.length)&&decide (Int.ofNat r3.1.length<=Int.ofNat r3.1.length)) (.i (decide ((([]++List.take (r3.2.1.toNat - Int.toNat 0) (List.drop (Int.toNat 0) r3.1)++[FO.mk (At.mk r3.2.2.At.Kind r3.2.2.At.Row r3.2.2.At.Ag r3.2.2.At.Func r3.2.2.At.Items r3.2.2.At.Op r3.2.2.At.Bd) r3.2.2.Exp]).length+(List.take ((Int.ofNat r3.1.length).toNat - (IntKind.i64.wrap (r3.2.1+1)).toNat) (List.drop (IntKind.i64.wrap (r3.2.1+1)).toNat r3.1)).length)*128<=zO)) (.k ([]++List.take (r3.2.1.toNat - Int.toNat 0) (List.drop (Int.toNat 0) r3.1)++[FO.mk (At.mk r3.2.2.At.Kind r3.2.2.At.Row r3.2.2.At.Ag r3.2.2.At.Func r3.2.2.At.Items r3.2.2.At.Op r3.2.2.At.Bd) r3.2.2.Exp]++List.take ((Int.ofNat r3.1.length).toNat - (IntKind.i64.wrap (r3.2.1+1)).toNat) (List.drop (IntKind.i64.wrap (r3.2.1+1)).toNat r3.1))) .d) .d) .d)) (.i (decide ((([]++List.take (r3.2.1.toNat - Int.toNat 0) (List.drop (Int.toNat 0) r3.1)).length+[FO.mk (At.mk r3.2.2.At.Kind r3.2.2.At.Row r3.2.2.At.Ag r3.2.2.At.Func r3.2.2.At.Items r3.2.2.At.Op r3.2.2.At.Bd) r3.2.2.Exp].length)*128<=zO)) (.i (decide (0<=r3.2.1)&&decide (r3.2.1<=Int.ofNat r3.1.length)&&decide (Int.ofNat r3.1.length<=Int.ofNat r3.1.length)) (.i (decide ((([]++List.take (r3.2.1.toNat - Int.toNat 0) (List.drop (Int.toNat 0) r3.1)++[FO.mk (At.mk r3.2.2.At.Kind r3.2.2.At.Row r3.2.2.At.Ag r3.2.2.At.Func r3.2.2.At.Items r3.2.2.At.Op r3.2.2.At.Bd) r3.2.2.Exp]).length+(List.take ((Int.ofNat r3.1.length).toNat - r3.2.1.toNat) (List.drop r3.2.1.toNat r3.1)).length)*128<=zO)) (.k ([]++List.take (r3.2.1.toNat - Int.toNat 0) (List.drop (Int.toNat 0) r3.1)++[FO.mk (At.mk r3.2.2.At.Kind r3.2.2.At.Row r3.2.2.At.Ag r3.2.2.At.Func r3.2.2.At.Items r3.2.2.At.Op r3.2.2.At.Bd) r3.2.2.Exp]++List.take ((Int.ofNat r3.1.length).toNat - r3.2.1.toNat) (List.drop r3.2.1.toNat r3.1))) .d) .d) .d)) .d) (.i (decide ((([]++List.take (r3.2.1.toNat - Int.toNat 0) (List.drop (Int.toNat 0) r3.1)).length+[FO.mk (At.mk r3.2.2.At.Kind r3.2.2.At.Row r3.2.2.At.Ag r3.2.2.At.Func r3.2.2.At.Items r3.2.2.At.Op r3.2.2.At.Bd) r3.2.2.Exp].length)*128<=zO)) (.i (decide (0<=r3.2.1)&&decide (r3.2.1<=Int.ofNat r3.1.length)&&decide (Int.ofNat r3.1.length<=Int.ofNat r3.1.length)) (.i (decide ((([]++List.take (r3.2.1.toNat - Int.toNat 0) (List.drop (Int.toNat 0) r3.1)++[FO.mk (At.mk r3.2.2.At.Kind r3.2.2.At.Row r3.2.2.At.Ag r3.2.2.At.Func r3.2.2.At.Items r3.2.2.At.Op r3.2.2.At.Bd) r3.2.2.Exp]).length+(List.take ((Int.ofNat r3.1.length).toNat - r3.2.1.toNat) (List.drop r3.2.1.toNat r3.1)).length)*128<=zO)) (.k ([]++List.take (r3.2.1.toNat - Int.toNat 0) (List.drop (Int.toNat 0) r3.1)++[FO.mk (At.mk r3.2.2.At.Kind r3.2.2.At.Row r3.2.2.At.Ag r3.2.2.At.Func r3.2.2.At.Items r3.2.2.At.Op r3.2.2.At.Bd) r3.2.2.Exp]++List.take ((Int.ofNat r3.1.length).toNat - r3.2.1.toNat) (List.drop r3.2.1.toNat r3.1))) .d) .d) .d)) .d) .d
def zCd (l:yD) (f:Fc):=(zTP l f).fin default
def z4i (r:yD):ARes ty:=⟨[.pure (.sl 69 r)],[]⟩
def z73:AL base (yD×Fc×Unit):=ze (zf (vSl 69)) (ze (zf (zcV 69)) zu)
def zMF:=zi z73 λx=>((zCd x.1 x.2.1).1,z4i (zCd x.1 x.2.1).2)
theorem z0G:SdP 57 zMF:=
 sT (cx':=zRt) (zk ⟨zDU,trivial⟩) call57 func57 (lOK (aC z4a aN))
def z7B:=zbt base 12 []
def zXo (a:Int) (b:Int):Wy0 (Int):=.i (!decide (b=0)) (.i (decide (a>IntKind.i64.wrap (Int.tdiv 1152921504606846976 b))) (.k 1152921504606846976) (.k (IntKind.i64.wrap (a*b)))) .d
def zEI (a:Int) (b:Int):=(zXo a b).fin default
def zP2:=zi z8x λx=>((zEI x.1 x.2.1).1,z2L (zEI x.1 x.2.1).2)
theorem z1Y:SdP 56 zP2:=
 sT (cx':=z7B) (zk trivial) call56 func56 (lOK aN)
abbrev zzB:=yC×yC×Unit×Int×Int×Unit×Int×Unit
abbrev zyQ:=yC×(Int×yD×Unit)×Unit
abbrev zOr:=yC×yC×Int×Int×yC×Int×yD
abbrev zzw:=yC×yC×Unit×Int×Int×Unit
abbrev ziW:=yC×Unit
abbrev zOF:=yC×yC×Int×yC
abbrev zzG:=yC×yC×Unit×Int×Unit
def zqm (a:yC) (b:yC) (i:Int) (k:Int) (j:Int) (out_:yC) (t_0:Int) (t_1:yD):Wy zzB zyQ zOr:=.i (decide (0<=k)&&decide (k<Int.ofNat b.length)) (.i (decide (j<Int.ofNat (b.getD k.toNat default).Fs.length)) (.i (decide (0<=k)&&decide (k<Int.ofNat b.length)) (.i (decide (0<=j)&&decide (j<Int.ofNat (b.getD k.toNat default).Fs.length)) (.bn (zCd t_1 (FO.mk (At.mk ((b.getD k.toNat default).Fs.getD j.toNat default).At.Kind ((b.getD k.toNat default).Fs.getD j.toNat default).At.Row ((b.getD k.toNat default).Fs.getD j.toNat default).At.Ag ((b.getD k.toNat default).Fs.getD j.toNat default).At.Func ((b.getD k.toNat default).Fs.getD j.toNat default).At.Items ((b.getD k.toNat default).Fs.getD j.toNat default).At.Op ((b.getD k.toNat default).Fs.getD j.toNat default).At.Bd) ((b.getD k.toNat default).Fs.getD j.toNat default).Exp)) λr0=>.h (a,b,(),i,k,(),(IntKind.i64.wrap (j+1)),()) (out_,(t_0,(r0),()),())) .d) .d) (.k (a,b,i,k,out_,t_0,t_1))) .d
def zEj (x:zzB) (y:zyQ):=zqm x.1 x.2.1 x.2.2.2.1 x.2.2.2.2.1 x.2.2.2.2.2.2.1 y.1 y.2.1.1 y.2.1.2.1
def zMI (n:Nat) (a:yC) (b:yC) (i:Int) (k:Int) (j:Int) (out_:yC) (t_0:Int) (t_1:yD):=zC (zEj) default n (a,b,(),i,k,(),j,()) (out_,(t_0,t_1,()),())
def zZ9 (r:zOr):LTree ty:=.done (.exit 4) [.sl 28 r.1,.sl 28 r.2.1,.own 264,.lit (.int .i64 r.2.2.1),.lit (.int .i64 r.2.2.2.1),.ptr 265 0] [.arr 28 r.2.2.2.2.1 false,.box ([.lit (.int .i64 r.2.2.2.2.2.1),.sl 69 r.2.2.2.2.2.2]) false]
def z2l:LL ty zzB:=za (lSl 28) (za (lSl 28) (za (zds 264) (za zj (za zj (za (zgc 265 0) (za zj zl))))))
def z27:BL ty zyQ:=zdw 28 false (zj7 (za (zT .i64) (za (lSl 69) zl)) false (zbe))
def zsN (a:yC) (b:yC) (i:Int) (k:Int) (out_:yC):Wy zzw ziW zOF:=.i (decide (k<Int.ofNat b.length)) (.i (decide (0<=i)&&decide (i<Int.ofNat a.length)) (.i (decide (0<=k)&&decide (k<Int.ofNat b.length)) (.bn (zEI (a.getD i.toNat default).Cf (b.getD k.toNat default).Cf) λr4=>.i (decide (0<=i)&&decide (i<Int.ofNat a.length)) (.bn (zMI ((a.length+b.length+i.toNat +k.toNat +Int.toNat 0+out_.length+r4.toNat +(a.getD i.toNat default).Fs.length+1)+zb9 a+zb9 b+zb9 out_+zLz (a.getD i.toNat default).Fs) a b i k 0 out_ r4 (a.getD i.toNat default).Fs) λr3=>.bn (zFT r3.2.2.2.2.1 (TO.mk r3.2.2.2.2.2.1 r3.2.2.2.2.2.2)) λr2=>.h ((r3.1),(r3.2.1),(),(r3.2.2.1),(IntKind.i64.wrap (r3.2.2.2.1+1)),()) ((r2),())) .d) .d) .d) (.k (a,b,i,out_))
def zFs (x:zzw) (y:ziW):=zsN x.1 x.2.1 x.2.2.2.1 x.2.2.2.2.1 y.1
def zPS (n:Nat) (a:yC) (b:yC) (i:Int) (k:Int) (out_:yC):=zC (zFs) default n (a,b,(),i,k,()) (out_,())
def z2g (r:zOF):LTree ty:=.done (.exit 2) [.sl 28 r.1,.sl 28 r.2.1,.own 264,.lit (.int .i64 r.2.2.1)] [.arr 28 r.2.2.2 false]
def z5o:LL ty zzw:=za (lSl 28) (za (lSl 28) (za (zds 264) (za zj (za zj zl))))
def z4I:BL ty ziW:=zdw 28 false (zbe)
def zsc (a:yC) (b:yC) (i:Int) (out_:yC):Wy zzG ziW (yC):=.i (decide (i<Int.ofNat a.length)) (.bn (zPS ((a.length+b.length+i.toNat +Int.toNat 0+out_.length+1)+zb9 a+zb9 b+zb9 out_) a b i 0 out_) λr8=>.h ((r8.1),(r8.2.1),(),(IntKind.i64.wrap (r8.2.2.1+1)),()) ((r8.2.2.2),())) (.k out_)
def zFy (x:zzG) (y:ziW):=zsc x.1 x.2.1 x.2.2.2.1 y.1
def zPd (n:Nat) (a:yC) (b:yC) (i:Int) (out_:yC):=zC (zFy) default n (a,b,(),i,()) (out_,())
def z2z (r:yC):LTree ty:=.done (.exit 0) [.own 264] [.arr 28 r false]
def z4r:LL ty zzG:=za (lSl 28) (za (lSl 28) (za (zds 264) (za zj zl)))
def z1o (x:zzB) (y:zyQ):Nat:=((x.1.length+x.2.1.length+Int.toNat x.2.2.2.1+Int.toNat x.2.2.2.2.1+Int.toNat x.2.2.2.2.2.2.1+y.1.length+Int.toNat y.2.1.1+y.2.1.2.1.length+1)+zb9 x.1+zb9 x.2.1+zb9 y.1+zLz y.2.1.2.1)
def z2W (x:zzw) (y:ziW):Nat:=((x.1.length+x.2.1.length+Int.toNat x.2.2.2.1+Int.toNat x.2.2.2.2.1+y.1.length+1)+zb9 x.1+zb9 x.2.1+zb9 y.1)
def z2P (x:zzG) (y:ziW):Nat:=((x.1.length+x.2.1.length+Int.toNat x.2.2.2.1+y.1.length+1)+zb9 x.1+zb9 x.2.1+zb9 y.1)
def zyW:=zb3 base 66 [(56,zP2),(57,zMF),(58,zJG)] [] [(3,(kpL [0,1,5,6])),(6,(kpL [0,1,5,6,7])),(10,(kpL [0,1,5,6,7,8,9]))] [(3,1,(kpL [5])),(6,3,(kpL [0,1,5,6])),(10,5,(kpL [0,1,5,6,7,8]))] [(10,spW z2l z27 (zEj) default zZ9 z1o),(6,spW z5o z4I (zFs) default z2g z2W),(3,spW z4r z4I (zFy) default z2z z2P)] []
theorem zZ8:zF zyW (lp (body f17) 2):=zq (id:=10) (hl:=rfl)
theorem z1X:zF zyW (lp (body f17) 1):=zq (id:=6) (hl:=rfl)
theorem z2B:zF zyW (lp (body f17) 0):=zq (id:=3) (hl:=rfl)
def zRH (a:yC) (b:yC):Wy0 (yC):=.bn (zPd ((a.length+b.length+Int.toNat 0+0+1)+zb9 a+zb9 b+zb9 []) a b 0 []) λr10=>.k r10
def zp4 (a:yC) (b:yC):=(zRH a b).fin default
def zKE:=zi z6l λx=>((zp4 x.1 x.2.1).1,zSe (zp4 x.1 x.2.1).2)
theorem zX7:SdP 17 zKE:=
 sT (cx':=zyW) (zk ⟨z1Y,z0G,zRO,trivial⟩) call17 func17 (lOK (aC z2B (aC z1X (aC zZ8 aN)))) (sg:=⟨[.own 28],[]⟩)
abbrev zHh:=yC×yC×Int×Unit
def zCD (a:yC) (b:yC) (i:Int):Wy zHh Unit (yC):=.i (decide (i<Int.ofNat b.length)) (.i (decide (0<=i)&&decide (i<Int.ofNat b.length)) (.bn (zFT a (b.getD i.toNat default)) λr0=>.h ((r0),b,(IntKind.i64.wrap (i+1)),()) ()) .d) (.k a)
def zPq (x:zHh) (y:Unit):=zCD x.1 x.2.1 x.2.2.1
def zY0 (n:Nat) (a:yC) (b:yC) (i:Int):=zC (zPq) default n (a,b,i,()) ()
def zbau (r:yC):LTree ty:=.done (.exit 0) [.sl 28 r] []
def zbbP:LL ty zHh:=za (lSl 28) (za (lSl 28) (za zj zl))
def zbal (x:zHh) (y:Unit):Nat:=(x.1.length+x.2.1.length+Int.toNat x.2.2.1+1)
def zYM:=zb3 base 19 [(58,zJG)] [] [(2,[(0,.sl 28),(1,.keep),(5,.keep)])] [(2,1,(kpL [0]))] [(2,spW zbbP zZe (zPq) default zbau zbal)] []
theorem z9Q:zF zYM (lp (body f45) 0):=zq (id:=2) (hl:=rfl)
def z3G (a:yC) (b:yC):Wy0 (yC):=.bn (zY0 (a.length+b.length+Int.toNat 0+1) a b 0) λr2=>.k r2
def zGj (a:yC) (b:yC):=(z3G a b).fin default
def zbag (r:yC):ARes ty:=⟨[.pure (.sl 28 r)],[]⟩
def zUi:=zi z6l λx=>((zGj x.1 x.2.1).1,zbag (zGj x.1 x.2.1).2)
theorem z5H:SdP 45 zUi:=
 sT (cx':=zYM) (zk ⟨zRO,trivial⟩) call45 func45 (lOK (aC z9Q aN))
abbrev zrc:=yF×yF×Int×Unit
abbrev zG5:=Int⊕(yF×yF)
def zWy (a:yF) (b:yF) (i:Int):Wy zrc Unit zG5:=.i (decide (i<Int.ofNat a.length)) (.i (decide (i<Int.ofNat b.length)) (.i (decide (0<=i)&&decide (i<Int.ofNat a.length)) (.i (decide (0<=i)&&decide (i<Int.ofNat b.length)) (.bn (znM (a.getD i.toNat default) (b.getD i.toNat default)) λr0=>.i (r0 != 0) (.k (.inl (r0))) (.h (a,b,(IntKind.i64.wrap (i+1)),()) ())) .d) .d) (.k (.inr (a,b)))) (.k (.inr (a,b)))
def zHq (x:zrc) (y:Unit):=zWy x.1 x.2.1 x.2.2.1
def zU1 (n:Nat) (a:yF) (b:yF) (i:Int):=zC (zHq) (.inl default) n (a,b,i,()) ()
def zUI (r:zG5):LTree ty:=.ite (isL r) (.done .ret [.lit (.int .i64 (getL r))] []) (.done (.exit 0) [.sl 49 (getR r).1,.sl 49 (getR r).2] [])
def zWR:LL ty zrc:=za (lSl 49) (za (lSl 49) (za zj zl))
def zTy (x:zrc) (y:Unit):Nat:=(x.1.length+x.2.1.length+Int.toNat x.2.2.1+1000)
def zHp:=zb3 base 41 [(105,zxs)] [] [(2,(kpL [0,1,5]))] [(2,1,(kpL [0,1])),(2,0,(kpL [4]))] [(2,spW zWR zZe (zHq) (.inl default) zUI zTy)] []
theorem zTO:zF zHp (lp (body f76) 0):=zq (id:=2) (hl:=rfl)
def zXW (a:yF) (b:yF):Wy0 (Int):=.bn (zU1 (a.length+b.length+Int.toNat 0+1000) a b 0) λr2=>.i (isL r2) (.k (getL r2)) (.i (Int.ofNat (getR r2).1.length==Int.ofNat (getR r2).2.length) (.k 0) (.i (decide (Int.ofNat (getR r2).1.length<Int.ofNat (getR r2).2.length)) (.k (-1:Int)) (.k 1)))
def zEg (a:yF) (b:yF):=(zXW a b).fin default
def zED:=zi zDw λx=>((zEg x.1 x.2.1).1,z2L (zEg x.1 x.2.1).2)
theorem zQU:SdP 76 zED:=
 sT (cx':=zHp) (zk ⟨zEW,trivial⟩) call76 func76 (lOK (aC zTO aN))
abbrev zFa:=yB×yB×Int×Unit
def z9Z (a:yB) (b:yB) (i:Int):Wy zFa Unit (Bool⊕Unit):=.i (decide (i<Int.ofNat a.length)) (.i (decide (0<=i)&&decide (i<Int.ofNat a.length)) (.i (decide (0<=i)&&decide (i<Int.ofNat b.length)) (.bn (zEg (a.getD i.toNat default) (b.getD i.toNat default)) λr0=>.i (r0 != 0) (.k (.inl false)) (.h (a,b,(IntKind.i64.wrap (i+1)),()) ())) .d) .d) (.k (.inr ()))
def zW5 (x:zFa) (y:Unit):=z9Z x.1 x.2.1 x.2.2.1
def zbai (n:Nat) (a:yB) (b:yB) (i:Int):=zC (zW5) (.inl default) n (a,b,i,()) ()
def zbaB:LL ty zFa:=za (lSl 43) (za (lSl 43) (za zj zl))
def z8g (x:zFa) (y:Unit):Nat:=(x.1.length+x.2.1.length+Int.toNat x.2.2.1+1000)
def zW8:=zb3 base 27 [(76,zED)] [] [(4,(kpL [0,1,5]))] [(4,1,[]),(4,0,(kpL [4]))] [(4,spW zbaB zZe (zW5) (.inl default) zSm z8g)] []
theorem z8K:zF zW8 (lp (body f26) 0):=zq (id:=4) (hl:=rfl)
def zbce (a:yB) (b:yB):Wy0 (Bool):=.i (Int.ofNat a.length != Int.ofNat b.length) (.k false) (.bn (zbai (a.length+b.length+Int.toNat 0+1000) a b 0) λr2=>.i (isL r2) (.k (getL r2)) (.k true))
def zWa (a:yB) (b:yB):=(zbce a b).fin default
def zRy:=zi z5j λx=>((zWa x.1 x.2.1).1,zYt (zWa x.1 x.2.1).2)
theorem z4V:SdP 26 zRy:=
 sT (cx':=zW8) (zk ⟨zQU,trivial⟩) call26 func26 (lOK (aC z8K aN))
abbrev zJj:=yC×yC×yC×Unit×Int×Unit×Unit×Unit×Unit
abbrev zJo:=yB×(Int×Int×Unit)×(Int×Int×Unit)×(Int×Int×Unit)×Unit
def z7H (x_:yC) (y_:yC) (a:yC) (e:Int) (l:yB) (one_0:Int) (one_1:Int) (two_0:Int) (two_1:Int) (three_0:Int) (three_1:Int):Wy zJj zJo (Bool):=.bn (zkc a) λr7=>.bn (zp4 y_ y_) λr6=>.bn (zGj x_ r6) λr5=>.bn (zuv r7 r5) λr4=>.i (r4) (.i (e==0) (.bn (zWa l [[RowID.mk one_0 one_1,RowID.mk two_0 two_1],[RowID.mk one_0 one_1,RowID.mk three_0 three_1]]) λr3=>.i (r3) (.bn (zhy a a) λr2=>.i (r2) (.i (decide ((0:Int)<=(0:Int))&&decide (0<Int.ofNat x_.length)) (.bn (zp4 x_ y_) λr1=>.i (decide ((0:Int)<=(0:Int))&&decide (0<Int.ofNat r1.length)) (.bn (zfA (x_.getD (Int.toNat 0) default) (r1.getD (Int.toNat 0) default)) λr0=>.k r0) .d) .d) (.k false)) (.k false)) (.k false)) (.k false)
def z8m (x:zJj) (y:zJo):=z7H x.1 x.2.1 x.2.2.1 x.2.2.2.2.1 y.1 y.2.1.1 y.2.1.2.1 y.2.2.1.1 y.2.2.1.2.1 y.2.2.2.1.1 y.2.2.2.1.2.1
def z6X (r:Bool):LTree ty:=.done .ret [.lit (.bool r)] []
def z8o:LL ty zJj:=za (lSl 28) (za (lSl 28) (za (lSl 28) (za (zds 328) (za zj (za (zgc 329 0) (za (zgc 330 0) (za (zgc 331 0) zl)))))))
def z8N:BL ty zJo:=zdw 43 false (zj7 (za (zT .i64) (za (zT .i64) zl)) false (zj7 (za (zT .i64) (za (zT .i64) zl)) false (zj7 (za (zT .i64) (za (zT .i64) zl)) false (zbe))))
def zT8:=zbaN zb2 82 [(14,zj4),(17,zKE),(18,zvC),(22,zv3),(24,zBa),(26,zRy),(30,zGT),(44,zIF),(45,zUi),(46,zPc),(47,zP8)] [] [(6,[(1,.sl 28),(2,.sl 28),(4,.sl 28),(7,.keep),(8,.keep),(9,.keep),(10,.keep),(11,.keep)])] [(6,0,(kpL [0]))] [] [] [(6,spW z8o z8N (z8m) default z6X λx y=>(1))]
theorem z65:zTD zT8 (jn (body f12) 6):=z4U (id:=6) (hl:=rfl)
def zbaF:Wy0 (Bool):=.k true
def z3q:Bool×Bool:=(zbaF).fin default
def zban:AL zb2 (Unit):=zu
def zPx:=zi zban λx=>((z3q ).1,zYt (z3q ).2)
theorem z15:Sound Tryz.prog zb2 12 zPx:=
 z1P (cx':=zT8) zG3 zP6 zbdp (zbbk ⟨zms.nodr,zX7.nodr,zDY.nodr,zEa,zMo.nodr,z4V.nodr,zOu.nodr,zVa.nodr,z5H.nodr,z10.nodr,z2Z.nodr,trivial⟩) call12 func12 (c:=body f12) (by kernel_rfl) (zXe (l:=[]) (by kernel_rfl) trivial (js:=[jn (body f12) 6]) (by kernel_rfl) ⟨z65,trivial⟩) (sg:=⟨[.pure],[]⟩)
def z8D:AL base (yC×Int×Int×Unit):=ze (zf (vSl 28)) (ze (zf (znO .i64)) (ze (zf (znO .i64)) zu))
def zxY (F:yC->Int->Int->Bool×Int):Ab.Spec ty:=zi z8D λx=>((F x.1 x.2.1 x.2.2.1).1,z2L (F x.1 x.2.1 x.2.2.1).2)
abbrev zkl:=yC×Int×Int×Int×Int×Int×Unit×Int×Unit
abbrev zRG:=yC×Int×Int×Int×Int×Int×At
abbrev zRz:=yC×Int×Int×Int×Int×Int
abbrev zBl:=yC×Int×Int×Int×Int×Int×Unit
abbrev zRI:=yC×Int×Int×Int×Int
abbrev zBb:=yC×Int×Int×Int×Int×Unit
def zCf (zK:yC->Int->Int->Bool×Int) (a:yC) (limit:Int) (zdB:Int) (n_:Int) (i:Int) (k:Int) (j:Int) (x_:At):Wy zkl (At×Unit) zRG:=.i (decide (j<Int.ofNat x_.Ag.length)) (.i (decide (n_<=limit)) (.i (decide (0<=j)&&decide (j<Int.ofNat x_.Ag.length)) (.bn (zK (x_.Ag.getD j.toNat default) (IntKind.i64.wrap (limit - n_)) (IntKind.i64.wrap (zdB - 1))) λr0=>.h (a,limit,zdB,(IntKind.i64.wrap (n_+r0)),i,k,(),(IntKind.i64.wrap (j+1)),()) (x_,())) .d) (.k (a,limit,zdB,n_,i,k,x_))) (.k (a,limit,zdB,n_,i,k,x_))
def zKs (zK:yC->Int->Int->Bool×Int) (x:zkl) (y:At×Unit):=zCf zK x.1 x.2.1 x.2.2.1 x.2.2.2.1 x.2.2.2.2.1 x.2.2.2.2.2.1 x.2.2.2.2.2.2.2.1 y.1
def zCP (zK:yC->Int->Int->Bool×Int) (n:Nat) (a:yC) (limit:Int) (zdB:Int) (n_:Int) (i:Int) (k:Int) (j:Int) (x_:At):=zC (zKs zK) default n (a,limit,zdB,n_,i,k,(),j,()) (x_,())
def zXx (r:zRG):LTree ty:=.done (.exit 4) [.sl 28 r.1,.lit (.int .i64 r.2.1),.lit (.int .i64 r.2.2.1),.lit (.int .i64 r.2.2.2.1),.lit (.int .i64 r.2.2.2.2.1),.lit (.int .i64 r.2.2.2.2.2.1),.ptr 544 0] [.box (base.enc 67 r.2.2.2.2.2.2) false]
def zY6:LL ty zkl:=za (lSl 28) (za zj (za zj (za zj (za zj (za zj (za (zgc 544 0) (za zj zl)))))))
def zCc (zK:yC->Int->Int->Bool×Int) (a:yC) (limit:Int) (zdB:Int) (n_:Int) (i:Int) (k:Int) (j:Int) (x_:At):Wy zkl (At×Unit) zRz:=.i (decide (j<Int.ofNat x_.Items.length)) (.i (decide (n_<=limit)) (.i (decide (0<=j)&&decide (j<Int.ofNat x_.Items.length)) (.i (decide (0<=j)&&decide (j<Int.ofNat x_.Items.length)) (.bn (zK (x_.Items.getD j.toNat default).Ann (IntKind.i64.wrap (limit - n_)) (IntKind.i64.wrap (zdB - 1))) λr2=>.h (a,limit,zdB,(IntKind.i64.wrap (IntKind.i64.wrap (n_+Int.ofNat (x_.Items.getD j.toNat default).Value.Text.size)+r2)),i,k,(),(IntKind.i64.wrap (j+1)),()) (x_,())) .d) .d) (.k (a,limit,zdB,n_,i,k))) (.k (a,limit,zdB,n_,i,k))
def zK1 (zK:yC->Int->Int->Bool×Int) (x:zkl) (y:At×Unit):=zCc zK x.1 x.2.1 x.2.2.1 x.2.2.2.1 x.2.2.2.2.1 x.2.2.2.2.2.1 x.2.2.2.2.2.2.2.1 y.1
def zB8 (zK:yC->Int->Int->Bool×Int) (n:Nat) (a:yC) (limit:Int) (zdB:Int) (n_:Int) (i:Int) (k:Int) (j:Int) (x_:At):=zC (zK1 zK) default n (a,limit,zdB,n_,i,k,(),j,()) (x_,())
def zXI (r:zRz):LTree ty:=.done (.exit 6) [.sl 28 r.1,.lit (.int .i64 r.2.1),.lit (.int .i64 r.2.2.1),.lit (.int .i64 r.2.2.2.1),.lit (.int .i64 r.2.2.2.2.1),.lit (.int .i64 r.2.2.2.2.2)] []
def zEu (zK:yC->Int->Int->Bool×Int) (a:yC) (limit:Int) (zdB:Int) (n_:Int) (i:Int) (k:Int):Wy zBl Unit zRI:=.i (decide (0<=i)&&decide (i<Int.ofNat a.length)) (.i (decide (k<Int.ofNat (a.getD i.toNat default).Fs.length)) (.i (decide (n_<=limit)) (.i (decide (0<=i)&&decide (i<Int.ofNat a.length)) (.i (decide (0<=k)&&decide (k<Int.ofNat (a.getD i.toNat default).Fs.length)) (.bn (zCP zK (a.length+limit.toNat +zdB.toNat +(IntKind.i64.wrap (IntKind.i64.wrap (IntKind.i64.wrap (n_+Int.ofNat ((a.getD i.toNat default).Fs.getD k.toNat default).At.Items.length)+Int.ofNat ((a.getD i.toNat default).Fs.getD k.toNat default).At.Ag.length)+Int.ofNat ((a.getD i.toNat default).Fs.getD k.toNat default).At.Bd.Text.size)).toNat +i.toNat +k.toNat +Int.toNat 0+((a.getD i.toNat default).Fs.getD k.toNat default).At.Ag.length+((a.getD i.toNat default).Fs.getD k.toNat default).At.Items.length+1) a limit zdB (IntKind.i64.wrap (IntKind.i64.wrap (IntKind.i64.wrap (n_+Int.ofNat ((a.getD i.toNat default).Fs.getD k.toNat default).At.Items.length)+Int.ofNat ((a.getD i.toNat default).Fs.getD k.toNat default).At.Ag.length)+Int.ofNat ((a.getD i.toNat default).Fs.getD k.toNat default).At.Bd.Text.size)) i k 0 (At.mk ((a.getD i.toNat default).Fs.getD k.toNat default).At.Kind ((a.getD i.toNat default).Fs.getD k.toNat default).At.Row ((a.getD i.toNat default).Fs.getD k.toNat default).At.Ag ((a.getD i.toNat default).Fs.getD k.toNat default).At.Func ((a.getD i.toNat default).Fs.getD k.toNat default).At.Items ((a.getD i.toNat default).Fs.getD k.toNat default).At.Op ((a.getD i.toNat default).Fs.getD k.toNat default).At.Bd)) λr5=>.bn (zB8 zK (r5.1.length+r5.2.1.toNat +r5.2.2.1.toNat +r5.2.2.2.1.toNat +r5.2.2.2.2.1.toNat +r5.2.2.2.2.2.1.toNat +Int.toNat 0+r5.2.2.2.2.2.2.Ag.length+r5.2.2.2.2.2.2.Items.length+1) r5.1 r5.2.1 r5.2.2.1 r5.2.2.2.1 r5.2.2.2.2.1 r5.2.2.2.2.2.1 0 (At.mk r5.2.2.2.2.2.2.Kind r5.2.2.2.2.2.2.Row r5.2.2.2.2.2.2.Ag r5.2.2.2.2.2.2.Func r5.2.2.2.2.2.2.Items r5.2.2.2.2.2.2.Op r5.2.2.2.2.2.2.Bd)) λr4=>.h ((r4.1),(r4.2.1),(r4.2.2.1),(r4.2.2.2.1),(r4.2.2.2.2.1),(IntKind.i64.wrap (r4.2.2.2.2.2+1)),()) ()) .d) .d) (.k (a,limit,zdB,n_,i))) (.k (a,limit,zdB,n_,i))) .d
def zMW (zK:yC->Int->Int->Bool×Int) (x:zBl) (y:Unit):=zEu zK x.1 x.2.1 x.2.2.1 x.2.2.2.1 x.2.2.2.2.1 x.2.2.2.2.2.1
def zEx (zK:yC->Int->Int->Bool×Int) (n:Nat) (a:yC) (limit:Int) (zdB:Int) (n_:Int) (i:Int) (k:Int):=zC (zMW zK) default n (a,limit,zdB,n_,i,k,()) ()
def z08 (r:zRI):LTree ty:=.done (.exit 2) [.sl 28 r.1,.lit (.int .i64 r.2.1),.lit (.int .i64 r.2.2.1),.lit (.int .i64 r.2.2.2.1),.lit (.int .i64 r.2.2.2.2)] []
def z11:LL ty zBl:=za (lSl 28) (za zj (za zj (za zj (za zj (za zj zl)))))
def zEs (zK:yC->Int->Int->Bool×Int) (a:yC) (limit:Int) (zdB:Int) (n_:Int) (i:Int):Wy zBb Unit (Int):=.i (decide (i<Int.ofNat a.length)) (.i (decide (n_<=limit)) (.i (decide (0<=i)&&decide (i<Int.ofNat a.length)) (.bn (zEx zK (a.length+limit.toNat +zdB.toNat +(IntKind.i64.wrap (IntKind.i64.wrap (n_+1)+Int.ofNat (a.getD i.toNat default).Fs.length)).toNat +i.toNat +Int.toNat 0+1) a limit zdB (IntKind.i64.wrap (IntKind.i64.wrap (n_+1)+Int.ofNat (a.getD i.toNat default).Fs.length)) i 0) λr8=>.h ((r8.1),(r8.2.1),(r8.2.2.1),(r8.2.2.2.1),(IntKind.i64.wrap (r8.2.2.2.2+1)),()) ()) .d) (.k n_)) (.k n_)
def zMY (zK:yC->Int->Int->Bool×Int) (x:zBb) (y:Unit):=zEs zK x.1 x.2.1 x.2.2.1 x.2.2.2.1 x.2.2.2.2.1
def zEr (zK:yC->Int->Int->Bool×Int) (n:Nat) (a:yC) (limit:Int) (zdB:Int) (n_:Int) (i:Int):=zC (zMY zK) default n (a,limit,zdB,n_,i,()) ()
def z2S:LL ty zBb:=za (lSl 28) (za zj (za zj (za zj (za zj zl))))
def zYv (x:zkl) (y:At×Unit):Nat:=(x.1.length+Int.toNat x.2.1+Int.toNat x.2.2.1+Int.toNat x.2.2.2.1+Int.toNat x.2.2.2.2.1+Int.toNat x.2.2.2.2.2.1+Int.toNat x.2.2.2.2.2.2.2.1+y.1.Ag.length+y.1.Items.length+1)
def zYE (x:zBl) (y:Unit):Nat:=(x.1.length+Int.toNat x.2.1+Int.toNat x.2.2.1+Int.toNat x.2.2.2.1+Int.toNat x.2.2.2.2.1+Int.toNat x.2.2.2.2.2.1+1)
def zYK (x:zBb) (y:Unit):Nat:=(x.1.length+Int.toNat x.2.1+Int.toNat x.2.2.1+Int.toNat x.2.2.2.1+Int.toNat x.2.2.2.2.1+1)
def zqu (zK:yC->Int->Int->Bool×Int):=zb3 base 136 [(48,(zxY zK))] [] [(5,(kpL [0,1,2,7,8])),(9,(kpL [0,1,2,7,8,9])),(14,(kpL [0,1,2,7,8,9,10,11])),(18,(kpL [0,1,2,7,8,9,10,12]))] [(5,1,(kpL [7])),(9,3,(kpL [0,1,2,7,8])),(14,5,(kpL [0,1,2,7,8,9,10])),(18,7,(kpL [0,1,2,7,8,9]))] [(14,spW zY6 zXM (zKs zK) default zXx zYv),(18,spW zY6 zXM (zK1 zK) default zXI zYv),(9,spW z11 zZe (zMW zK) default z08 zYE),(5,spW z2S zZe (zMY zK) default zUS zYK)] []
theorem zYD (zK:yC->Int->Int->Bool×Int):zF (zqu zK) (lp (body f48) 2):=zq (id:=14) (hl:=rfl)
theorem zXA (zK:yC->Int->Int->Bool×Int):zF (zqu zK) (lp (body f48) 3):=zq (id:=18) (hl:=rfl)
theorem zZh (zK:yC->Int->Int->Bool×Int):zF (zqu zK) (lp (body f48) 1):=zq (id:=9) (hl:=rfl)
theorem z07 (zK:yC->Int->Int->Bool×Int):zF (zqu zK) (lp (body f48) 0):=zq (id:=5) (hl:=rfl)
def zFp (zK:yC->Int->Int->Bool×Int) (a:yC) (limit:Int) (zdB:Int):Wy0 (Int):=.i (zdB==0) (.k (IntKind.i64.wrap (limit+1))) (.bn (zEr zK (a.length+limit.toNat +zdB.toNat +Int.toNat 0+Int.toNat 0+1) a limit zdB 0 0) λr10=>.k r10)
def zxH (zK:yC->Int->Int->Bool×Int) (a:yC) (limit:Int) (zdB:Int):=(zFp zK a limit zdB).fin default
theorem zWn (zK:yC->Int->Int->Bool×Int) (z40:SdP 48 (zxY zK)):SdP 48 (zxY (zxH zK)):=
 sT (cx':=(zqu zK)) (zk ⟨z40,trivial⟩) call48 func48 (lOK (aC (z07 zK) (aC (zZh zK) (aC (zYD zK) (aC (zXA zK) aN)))))
def z3w:Nat->(yC->Int->Int->Bool×Int)
 | 0=>λ_ _ _=>(false,default)
 | n+1=>zxH (z3w n)
def zrL (n:Nat):yC->Int->Int->Bool×Int:=z3w n
theorem zMU (n:Nat):zrL (n+1)=zxH (zrL n):=rfl
theorem zXh:∀ n,SdP 48 (zxY (zrL n))
 | 0=>zbc call48 (λ_=>rfl)
 | n+1=>by
  have ih:=zXh n;exact zWn _ (ih)
def zO2:yC->Int->Int->Bool×Int:=zrL 1000
def zMS:Ab.Spec ty:=zxY zO2
theorem z0M:SdP 48 zMS:=(zXh 1000)
abbrev zHi:=Int×yA×Int×Unit
def zP7 (limit:Int) (l:yA) (i:Int):Wy zHi Unit (Bool⊕Unit):=.i (decide (i<Int.ofNat l.length)) (.i (decide (0<=i)&&decide (i<Int.ofNat l.length)) (.bn (zO2 (l.getD i.toNat default) limit 12) λr0=>.i (decide (r0>limit)) (.k (.inl false)) (.h (limit,l,(IntKind.i64.wrap (i+1)),()) ())) .d) (.k (.inr ()))
def z1e (x:zHi) (y:Unit):=zP7 x.1 x.2.1 x.2.2.1
def zOX (n:Nat) (limit:Int) (l:yA) (i:Int):=zC (z1e) (.inl default) n (limit,l,i,()) ()
def zbcO:LL ty zHi:=za zj (za (lSl 23) (za zj zl))
def z97 (x:zHi) (y:Unit):Nat:=(Int.toNat x.1+x.2.1.length+Int.toNat x.2.2.1+1)
def zZf:=zb3 base 20 [(48,zMS)] [] [(2,(kpL [0,1,5]))] [(2,1,[]),(2,0,(kpL [4]))] [(2,spW zbcO zZe (z1e) (.inl default) zSm z97)] []
theorem zbav:zF zZf (lp (body f13) 0):=zq (id:=2) (hl:=rfl)
def z3o (limit:Int) (l:yA):Wy0 (Bool):=.bn (zOX (limit.toNat +l.length+Int.toNat 0+1) limit l 0) λr2=>.i (isL r2) (.k (getL r2)) (.k true)
def zC3 (limit:Int) (l:yA):=(z3o limit l).fin default
def zbcZ:AL base (Int×yA×Unit):=ze (zf zfl) (ze (zf (vSl 23)) zu)
def zTT:=zi zbcZ λx=>((zC3 x.1 x.2.1).1,zYt (zC3 x.1 x.2.1).2)
theorem z7o:SdP 13 zTT:=
 sT (cx':=zZf) (zk ⟨z0M,trivial⟩) call13 func13 (lOK (aC zbav aN))
end Go.Proofs.YtljlfiomikifjaaGreatDoor
end
