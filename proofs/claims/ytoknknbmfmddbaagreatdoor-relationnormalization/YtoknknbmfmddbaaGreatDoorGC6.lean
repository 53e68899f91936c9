/- Texts of this claim, joined (the program, its functions in plain words, and what they compute). -/
import Derived.Test.YtoknknbmfmddbaaGreatDoorGC5
set_option autoImplicit false
set_option linter.unusedVariables false
set_option linter.unusedSectionVars false
set_option linter.unusedSimpArgs false
set_option maxRecDepth 1000000
set_option maxHeartbeats 0
noncomputable section
namespace Go.Proofs.YtoknknbmfmddbaaGreatDoor
open Go Go.Ab
open Go.Proofs.Tryz
abbrev zsT:=Unit×Unit×Int×Unit
abbrev zsI:=Relation×(Unit×Unit×Unit)×Unit
abbrev zF7:=Int⊕Relation
abbrev ztk:=Unit×Unit×Unit×Int×Unit
abbrev ztq:=Relation×(Unit×Unit×Unit)×yF×Unit
abbrev zGr:=Int⊕(Relation×yF)
def zyN (i:Int) (r:Relation):Wy zsT zsI zF7:=.i (decide (i<Int.ofNat r.Rows.length)) (.i (decide (0<=i)&&decide (i<Int.ofNat r.Rows.length)) (.bn (zzy r.Columns (r.Rows.getD i.toNat default).Values) λr1=>.i (!r1) (.k (.inl 7)) (.i (decide (0<=i)&&decide (i<Int.ofNat r.Rows.length)) (.bn (zfK (r.Rows.getD i.toNat default).Ann) λr0=>.i (!r0) (.k (.inl 1)) (.h ((),(),(IntKind.i64.wrap (i+1)),()) (r,((),(),()),()))) .d)) .d) (.k (.inr r))
def zyC (x:zsT) (y:zsI):=zyN x.2.2.1 y.1
def zGA (n:Nat) (i:Int) (r:Relation):=zB (zyC) (.inl default) n ((),(),i,()) (r,((),(),()),())
def zT7 (r:zF7):LTree ty:=.ite (isL r) (.done .ret [.ptr 316 0,.lit (.int .i64 (getL r))] [.box ([.lit (.slice none 0 0),.lit (.slice none 0 0)]) false]) (.done (.exit 0) [.ptr 316 0,.ptr 317 0] [.box (base.enc 25 (getR r)) false,.box ([.lit (.slice none 0 0),.lit (.slice none 0 0)]) false])
def zVu:LL ty zsT:=za (zcI 316 0) (za (zcI 317 0) (za zj zl))
def zVi:BL ty zsI:=zd7 (zdv (λx=>(⟨x.1,x.2.1⟩:Relation)) (λx=>(x.Columns,x.Rows,())) (λ_=>rfl) (za (lSl 75) (za (lSl 54) zl))) false (zd7 (za zIm (za zIm zl)) false (zbe))
def zxt (i:Int) (r:Relation) (out_:yF):Wy ztk ztq zGr:=.i (decide (i<Int.ofNat r.Rows.length)) (.i (decide (0<=i)&&decide (i<Int.ofNat r.Rows.length)) (.i (Int.ofNat (r.Rows.getD i.toNat default).Ann.length==0) (.h ((),(),(),(IntKind.i64.wrap (i+1)),()) (r,((),(),()),out_,())) (.i (decide (0<=i)&&decide (i<Int.ofNat r.Rows.length)) (.bn (zHj out_ (r.Rows.getD i.toNat default)) λr4=>.i (!r4.2) (.k (.inl 6)) (.h ((),(),(),(IntKind.i64.wrap (i+1)),()) (r,((),(),()),(r4.1),()))) .d)) .d) (.k (.inr (r,out_)))
def zxv (x:ztk) (y:ztq):=zxt x.2.2.2.1 y.1 y.2.2.1
def zET (n:Nat) (i:Int) (r:Relation) (out_:yF):=zB (zxv) (.inl default) n ((),(),(),i,()) (r,((),(),()),out_,())
def zRK (r:zGr):LTree ty:=.ite (isL r) (.done .ret [.ptr 316 0,.lit (.int .i64 (getL r))] [.box ([.lit (.slice none 0 0),.lit (.slice none 0 0)]) false]) (.done (.exit 2) [.ptr 316 0,.ptr 317 0,.own 318] [.box (base.enc 25 (getR r).1) false,.box ([.lit (.slice none 0 0),.lit (.slice none 0 0)]) false,.arr 54 (getR r).2 false])
def zTy:LL ty ztk:=za (zcI 316 0) (za (zcI 317 0) (za (zgd 318) (za zj zl)))
def zUe:BL ty ztq:=zd7 (zdv (λx=>(⟨x.1,x.2.1⟩:Relation)) (λx=>(x.Columns,x.Rows,())) (λ_=>rfl) (za (lSl 75) (za (lSl 54) zl))) false (zd7 (za zIm (za zIm zl)) false (zge 54 false (zbe)))
def zUF (x:zsT) (y:zsI):Nat:=(Int.toNat x.2.2.1+y.1.Columns.length+y.1.Rows.length+1)
def zRs (x:ztk) (y:ztq):Nat:=(Int.toNat x.2.2.2.1+y.1.Columns.length+y.1.Rows.length+y.2.2.1.length+1)
def zy5:=zbZ base 79 [(54,zyp),(55,zD9),(56,zvW),(73,zO1)] [] [(4,(kpL [1,2,4])),(12,(kpL [1,2,5,6]))] [(4,1,(kpL [1,2])),(4,0,(kpL [2,3])),(12,3,(kpL [1,2,5])),(12,0,(kpL [2,3]))] [(4,spW zVu zVi (zyC) (.inl default) zT7 zUF),(12,spW zTy zUe (zxv) (.inl default) zRK zRs)] []
theorem zUH:zI zy5 (lp (body f29) 0):=zo (id:=4) (hl:=rfl)
theorem zSd:zI zy5 (lp (body f29) 1):=zo (id:=12) (hl:=rfl)
def zIo (r:Relation):Wy0 (Relation×Int):=.bn (zsn r.Columns) λr8=>.i (!r8) (.k ((⟨[],[]⟩:Relation),1)) (.bn (zGA (Int.toNat 0+r.Columns.length+r.Rows.length+1) 0 r) λr7=>.i (isL r7) (.k ((⟨[],[]⟩:Relation),getL r7)) (.bn (zET (Int.toNat 0+(getR r7).Columns.length+(getR r7).Rows.length+0+1) 0 (getR r7) []) λr6=>.i (isL r6) (.k ((⟨[],[]⟩:Relation),getL r6)) (.i (decide (Int.ofNat (getR r6).2.length>1024)) (.k ((⟨[],[]⟩:Relation),6)) (.k ((⟨(getR r6).1.Columns,(getR r6).2⟩:Relation),0)))))
def zlm (r:Relation):=(zIo r).fin default
def zYm:AL base (Relation×Unit):=zd (ze (zbX 25)) zr
def zwj:=zh zYm λx=>((zlm x.1).1,zOD (zlm x.1).2)
theorem zCt:SdP 29 zwj:=
 sT (cx':=zy5) (zi ⟨zEJ,zJ3,zz3,z2g,trivial⟩) call29 func29 (lOK (aC zUH (aC zSd aN))) (sg:=⟨[.pure,.pure],[]⟩)
abbrev zzr:=yH×yH×Int×Unit
def zun (a:yH) (b:yH) (i:Int):Wy zzr Unit (Bool⊕Unit):=.i (decide (i<Int.ofNat a.length)) (.i (decide (0<=i)&&decide (i<Int.ofNat a.length)) (.i (decide (0<=i)&&decide (i<Int.ofNat b.length)) (.i ((a.getD i.toNat default).Type_ != (b.getD i.toNat default).Type_) (.k (.inl false)) (.h (a,b,(IntKind.i64.wrap (i+1)),()) ())) .d) .d) (.k (.inr ()))
def zFm (x:zzr) (y:Unit):=zun x.1 x.2.1 x.2.2.1
def zP5 (n:Nat) (a:yH) (b:yH) (i:Int):=zB (zFm) (.inl default) n (a,b,i,()) ()
def z4y:LL ty zzr:=za (lSl 75) (za (lSl 75) (za zj zl))
def z1d (x:zzr) (y:Unit):Nat:=(x.1.length+x.2.1.length+Int.toNat x.2.2.1+1)
def zPF:=zbZ base 28 [] [] [(4,(kpL [0,1,5]))] [(4,1,[]),(4,0,(kpL [4]))] [(4,spW z4y z6k (zFm) (.inl default) znl z1d)] []
theorem z1K:zI zPF (lp (body f74) 0):=zo (id:=4) (hl:=rfl)
def zTk (a:yH) (b:yH):Wy0 (Bool):=.i (Int.ofNat a.length != Int.ofNat b.length) (.k false) (.bn (zP5 (a.length+b.length+Int.toNat 0+1) a b 0) λr0=>.i (isL r0) (.k (getL r0)) (.k true))
def zAP (a:yH) (b:yH):=(zTk a b).fin default
def zKn:=zh zyc λx=>((zAP x.1 x.2.1).1,zUI (zAP x.1 x.2.1).2)
theorem zX4:SdP 74 zKn:=
 sT (cx':=zPF) (zi trivial) call74 func74 (lOK (aC z1K aN))
abbrev zzv:=Unit×Int×Unit
abbrev zuQ:=Relation×Unit
def zuq (i:Int) (r:Relation):Wy zzv zuQ (Bool⊕Unit):=.i (decide (i<Int.ofNat r.Rows.length)) (.i (decide (0<=i)&&decide (i<Int.ofNat r.Rows.length)) (.bn (zzy r.Columns (r.Rows.getD i.toNat default).Values) λr2=>.i (!r2) (.k (.inl false)) (.i (Int.ofNat (r.Rows.getD i.toNat default).Ann.length==0) (.k (.inl false)) (.bn (zfK (r.Rows.getD i.toNat default).Ann) λr1=>.i (!r1) (.k (.inl false)) (.i (decide (i>0)) (.i (decide (0<=IntKind.i64.wrap (i - 1))&&decide (IntKind.i64.wrap (i - 1)<Int.ofNat r.Rows.length)) (.bn (zi0 (r.Rows.getD (IntKind.i64.wrap (i - 1)).toNat default).Values (r.Rows.getD i.toNat default).Values) λr0=>.i (decide (r0≥0)) (.k (.inl false)) (.h ((),(IntKind.i64.wrap (i+1)),()) (r,()))) .d) (.h ((),(IntKind.i64.wrap (i+1)),()) (r,())))))) .d) (.k (.inr ()))
def zFA (x:zzv) (y:zuQ):=zuq x.2.1 y.1
def zO8 (n:Nat) (i:Int) (r:Relation):=zB (zFA) (.inl default) n ((),i,()) (r,())
def z4S:LL ty zzv:=za (zcI 248 0) (za zj zl)
def z4o:BL ty zuQ:=zd7 (zdv (λx=>(⟨x.1,x.2.1⟩:Relation)) (λx=>(x.Columns,x.Rows,())) (λ_=>rfl) (za (lSl 75) (za (lSl 54) zl))) false (zbe)
def z2j (x:zzv) (y:zuQ):Nat:=(Int.toNat x.2.1+y.1.Columns.length+y.1.Rows.length+1)
def zP8:=zbZ base 62 [(54,zyp),(55,zD9),(56,zvW),(57,zmK)] [] [(4,(kpL [1,3]))] [(4,1,[]),(4,0,(kpL [2]))] [(4,spW z4S z4o (zFA) (.inl default) znl z2j)] []
theorem z2L:zI zP8 (lp (body f15) 0):=zo (id:=4) (hl:=rfl)
def zTl (r:Relation):Wy0 (Bool):=.bn (zsn r.Columns) λr7=>.i (!r7) (.k false) (.i (decide (Int.ofNat r.Rows.length>1024)) (.k false) (.bn (zO8 (Int.toNat 0+r.Columns.length+r.Rows.length+1) 0 r) λr6=>.i (isL r6) (.k (getL r6)) (.k true)))
def zxg (r:Relation):=(zTl r).fin default
def z6R:AL base zuQ:=zd (ze (zbX 25)) zr
def zLm:=zh z6R λx=>((zxg x.1).1,zUI (zxg x.1).2)
theorem zX5:SdP 15 zLm:=
 sT (cx':=zP8) (zi ⟨zEJ,zJ3,zz3,zr1,trivial⟩) call15 func15 (lOK (aC z2L aN))
def z81:=zbv base 35 [(15,zLm),(29,zwj),(74,zKn)]
def zZo (a:Relation) (b:Relation):Wy0 (Relation×Int):=.bn (zxg a) λr3=>.i (!r3) (.k ((⟨[],[]⟩:Relation),1)) (.bn (zxg b) λr2=>.i (!r2) (.k ((⟨[],[]⟩:Relation),1)) (.bn (zAP a.Columns b.Columns) λr1=>.i (!r1) (.k ((⟨[],[]⟩:Relation),7)) (.i (decide ((0+a.Rows.length)*48<=zA)) (.i (decide ((([]++a.Rows).length+b.Rows.length)*48<=zA)) (.bn (zlm (Relation.mk a.Columns ([]++a.Rows++b.Rows))) λr0=>.k (r0.1,r0.2)) .d) .d)))
def zGD (a:Relation) (b:Relation):=(zZo a b).fin default
def zQj:=zh z0t λx=>((zGD x.1 x.2.1).1,zOD (zGD x.1 x.2.1).2)
theorem z1B:SdP 30 zQj:=
 sT (cx':=z81) (zi ⟨zX5,zCt,zX4,trivial⟩) call30 func30 (lOK aN) (sg:=⟨[.pure,.pure],[]⟩)
abbrev zzk:=yG×Int×Int×Unit
abbrev zPB:=Bool⊕(yG×Int)
def zFf (l:yG) (n_:Int) (i:Int):Wy zzk Unit zPB:=.i (decide (i<Int.ofNat l.length)) (.i (decide (0<=i)&&decide (i<Int.ofNat l.length)) (.i (decide (Int.ofNat (l.getD i.toNat default).Text.size>300)) (.k (.inl false)) (.h (l,n_,(IntKind.i64.wrap (i+1)),()) ())) .d) (.k (.inr (l,n_)))
def zO9 (x:zzk) (y:Unit):=zFf x.1 x.2.1 x.2.2.1
def zFE (n:Nat) (l:yG) (n_:Int) (i:Int):=zB (zO9) (.inl default) n (l,n_,i,()) ()
def z1u (r:zPB):LTree ty:=.ite (isL r) (.done .ret [.lit (.bool (getL r))] []) (.done (.exit 0) [.sl 79 (getR r).1,.lit (.int .i64 (getR r).2)] [])
def z3T:LL ty zzk:=za (lSl 79) (za zj (za zj zl))
def z1A (x:zzk) (y:Unit):Nat:=(x.1.length+Int.toNat x.2.1+Int.toNat x.2.2.1+1)
def zQB:=zbZ base 23 [] [] [(2,(kpL [0,1,5]))] [(2,1,(kpL [0,1])),(2,0,(kpL [4]))] [(2,spW z3T z6k (zO9) (.inl default) z1u z1A)] []
theorem z08:zI zQB (lp (body f18) 0):=zo (id:=2) (hl:=rfl)
def zSO (l:yG) (n_:Int):Wy0 (Bool):=.bn (zFE (l.length+n_.toNat +Int.toNat 0+1) l n_ 0) λr0=>.i (isL r0) (.k (getL r0)) (.k (decide (Int.ofNat (getR r0).1.length<=(getR r0).2)))
def zxd (l:yG) (n_:Int):=(zSO l n_).fin default
def z6p:AL base (yG×Int×Unit):=zd (ze (vSl 79)) (zd (ze zgq) zr)
def zLi:=zh z6p λx=>((zxd x.1 x.2.1).1,zUI (zxd x.1 x.2.1).2)
theorem zYJ:SdP 18 zLi:=
 sT (cx':=zQB) (zi trivial) call18 func18 (lOK (aC z08 aN))
def z4x:AL base (yB×Int×Int×Unit):=zd (ze (vSl 107)) (zd (ze (zgu .i64)) (zd (ze (zgu .i64)) zr))
def zuE (F:yB->Int->Int->Bool×Int):Ab.Spec ty:=zh z4x λx=>((F x.1 x.2.1 x.2.2.1).1,zOz (F x.1 x.2.1 x.2.2.1).2)
abbrev zi8:=yB×Int×Int×Int×Int×Int×Unit×Int×Unit
abbrev zNo:=yB×Int×Int×Int×Int×Int×At
abbrev zMV:=yB×Int×Int×Int×Int×Int
abbrev zxS:=yB×Int×Int×Int×Int×Int×Unit
abbrev zM9:=yB×Int×Int×Int×Int
abbrev zx8:=yB×Int×Int×Int×Int×Unit
def zza (zH:yB->Int->Int->Bool×Int) (a:yB) (limit:Int) (zc5:Int) (n_:Int) (i:Int) (k:Int) (j:Int) (x_:At):Wy zi8 (At×Unit) zNo:=.i (decide (j<Int.ofNat x_.Ag.length)) (.i (decide (n_<=limit)) (.i (decide (0<=j)&&decide (j<Int.ofNat x_.Ag.length)) (.bn (zH (x_.Ag.getD j.toNat default) (IntKind.i64.wrap (limit - n_)) (IntKind.i64.wrap (zc5 - 1))) λr0=>.h (a,limit,zc5,(IntKind.i64.wrap (n_+r0)),i,k,(),(IntKind.i64.wrap (j+1)),()) (x_,())) .d) (.k (a,limit,zc5,n_,i,k,x_))) (.k (a,limit,zc5,n_,i,k,x_))
def zHa (zH:yB->Int->Int->Bool×Int) (x:zi8) (y:At×Unit):=zza zH x.1 x.2.1 x.2.2.1 x.2.2.2.1 x.2.2.2.2.1 x.2.2.2.2.2.1 x.2.2.2.2.2.2.2.1 y.1
def zys (zH:yB->Int->Int->Bool×Int) (n:Nat) (a:yB) (limit:Int) (zc5:Int) (n_:Int) (i:Int) (k:Int) (j:Int) (x_:At):=zB (zHa zH) default n (a,limit,zc5,n_,i,k,(),j,()) (x_,())
def zTZ (r:zNo):LTree ty:=.done (.exit 4) [.sl 107 r.1,.lit (.int .i64 r.2.1),.lit (.int .i64 r.2.2.1),.lit (.int .i64 r.2.2.2.1),.lit (.int .i64 r.2.2.2.2.1),.lit (.int .i64 r.2.2.2.2.2.1),.ptr 544 0] [.box (base.enc 143 r.2.2.2.2.2.2) false]
def zWC:LL ty zi8:=za (lSl 107) (za zj (za zj (za zj (za zj (za zj (za (zcI 544 0) (za zj zl)))))))
def zyZ (zH:yB->Int->Int->Bool×Int) (a:yB) (limit:Int) (zc5:Int) (n_:Int) (i:Int) (k:Int) (j:Int) (x_:At):Wy zi8 (At×Unit) zMV:=.i (decide (j<Int.ofNat x_.Items.length)) (.i (decide (n_<=limit)) (.i (decide (0<=j)&&decide (j<Int.ofNat x_.Items.length)) (.i (decide (0<=j)&&decide (j<Int.ofNat x_.Items.length)) (.bn (zH (x_.Items.getD j.toNat default).Ann (IntKind.i64.wrap (limit - n_)) (IntKind.i64.wrap (zc5 - 1))) λr2=>.h (a,limit,zc5,(IntKind.i64.wrap (IntKind.i64.wrap (n_+Int.ofNat (x_.Items.getD j.toNat default).Value.Text.size)+r2)),i,k,(),(IntKind.i64.wrap (j+1)),()) (x_,())) .d) .d) (.k (a,limit,zc5,n_,i,k))) (.k (a,limit,zc5,n_,i,k))
def zG7 (zH:yB->Int->Int->Bool×Int) (x:zi8) (y:At×Unit):=zyZ zH x.1 x.2.1 x.2.2.1 x.2.2.2.1 x.2.2.2.2.1 x.2.2.2.2.2.1 x.2.2.2.2.2.2.2.1 y.1
def zyE (zH:yB->Int->Int->Bool×Int) (n:Nat) (a:yB) (limit:Int) (zc5:Int) (n_:Int) (i:Int) (k:Int) (j:Int) (x_:At):=zB (zG7 zH) default n (a,limit,zc5,n_,i,k,(),j,()) (x_,())
def zUB (r:zMV):LTree ty:=.done (.exit 6) [.sl 107 r.1,.lit (.int .i64 r.2.1),.lit (.int .i64 r.2.2.1),.lit (.int .i64 r.2.2.2.1),.lit (.int .i64 r.2.2.2.2.1),.lit (.int .i64 r.2.2.2.2.2)] []
def zAm (zH:yB->Int->Int->Bool×Int) (a:yB) (limit:Int) (zc5:Int) (n_:Int) (i:Int) (k:Int):Wy zxS Unit zM9:=.i (decide (0<=i)&&decide (i<Int.ofNat a.length)) (.i (decide (k<Int.ofNat (a.getD i.toNat default).Fs.length)) (.i (decide (n_<=limit)) (.i (decide (0<=i)&&decide (i<Int.ofNat a.length)) (.i (decide (0<=k)&&decide (k<Int.ofNat (a.getD i.toNat default).Fs.length)) (.bn (zys zH (a.length+limit.toNat +zc5.toNat +(IntKind.i64.wrap (IntKind.i64.wrap (IntKind.i64.wrap (n_+Int.ofNat ((a.getD i.toNat default).Fs.getD k.toNat default).At.Items.length)+Int.ofNat ((a.getD i.toNat default).Fs.getD k.toNat default).At.Ag.length)+Int.ofNat ((a.getD i.toNat default).Fs.getD k.toNat default).At.Bd.Text.size)).toNat +i.toNat +k.toNat +Int.toNat 0+((a.getD i.toNat default).Fs.getD k.toNat default).At.Ag.length+((a.getD i.toNat default).Fs.getD k.toNat default).At.Items.length+1) a limit zc5 (IntKind.i64.wrap (IntKind.i64.wrap (IntKind.i64.wrap (n_+Int.ofNat ((a.getD i.toNat default).Fs.getD k.toNat default).At.Items.length)+Int.ofNat ((a.getD i.toNat default).Fs.getD k.toNat default).At.Ag.length)+Int.ofNat ((a.getD i.toNat default).Fs.getD k.toNat default).At.Bd.Text.size)) i k 0 (At.mk ((a.getD i.toNat default).Fs.getD k.toNat default).At.Kind ((a.getD i.toNat default).Fs.getD k.toNat default).At.Row ((a.getD i.toNat default).Fs.getD k.toNat default).At.Ag ((a.getD i.toNat default).Fs.getD k.toNat default).At.Func ((a.getD i.toNat default).Fs.getD k.toNat default).At.Items ((a.getD i.toNat default).Fs.getD k.toNat default).At.Op ((a.getD i.toNat default).Fs.getD k.toNat default).At.Bd)) λr5=>.bn (zyE zH (r5.1.length+r5.2.1.toNat +r5.2.2.1.toNat +r5.2.2.2.1.toNat +r5.2.2.2.2.1.toNat +r5.2.2.2.2.2.1.toNat +Int.toNat 0+r5.2.2.2.2.2.2.Ag.length+r5.2.2.2.2.2.2.Items.length+1) r5.1 r5.2.1 r5.2.2.1 r5.2.2.2.1 r5.2.2.2.2.1 r5.2.2.2.2.2.1 0 (At.mk r5.2.2.2.2.2.2.Kind r5.2.2.2.2.2.2.Row r5.2.2.2.2.2.2.Ag r5.2.2.2.2.2.2.Func r5.2.2.2.2.2.2.Items r5.2.2.2.2.2.2.Op r5.2.2.2.2.2.2.Bd)) λr4=>.h ((r4.1),(r4.2.1),(r4.2.2.1),(r4.2.2.2.1),(r4.2.2.2.2.1),(IntKind.i64.wrap (r4.2.2.2.2.2+1)),()) ()) .d) .d) (.k (a,limit,zc5,n_,i))) (.k (a,limit,zc5,n_,i))) .d
def zIv (zH:yB->Int->Int->Bool×Int) (x:zxS) (y:Unit):=zAm zH x.1 x.2.1 x.2.2.1 x.2.2.2.1 x.2.2.2.2.1 x.2.2.2.2.2.1
def zAq (zH:yB->Int->Int->Bool×Int) (n:Nat) (a:yB) (limit:Int) (zc5:Int) (n_:Int) (i:Int) (k:Int):=zB (zIv zH) default n (a,limit,zc5,n_,i,k,()) ()
def zWx (r:zM9):LTree ty:=.done (.exit 2) [.sl 107 r.1,.lit (.int .i64 r.2.1),.lit (.int .i64 r.2.2.1),.lit (.int .i64 r.2.2.2.1),.lit (.int .i64 r.2.2.2.2)] []
def zYc:LL ty zxS:=za (lSl 107) (za zj (za zj (za zj (za zj (za zj zl)))))
def zAu (zH:yB->Int->Int->Bool×Int) (a:yB) (limit:Int) (zc5:Int) (n_:Int) (i:Int):Wy zx8 Unit (Int):=.i (decide (i<Int.ofNat a.length)) (.i (decide (n_<=limit)) (.i (decide (0<=i)&&decide (i<Int.ofNat a.length)) (.bn (zAq zH (a.length+limit.toNat +zc5.toNat +(IntKind.i64.wrap (IntKind.i64.wrap (n_+1)+Int.ofNat (a.getD i.toNat default).Fs.length)).toNat +i.toNat +Int.toNat 0+1) a limit zc5 (IntKind.i64.wrap (IntKind.i64.wrap (n_+1)+Int.ofNat (a.getD i.toNat default).Fs.length)) i 0) λr8=>.h ((r8.1),(r8.2.1),(r8.2.2.1),(r8.2.2.2.1),(IntKind.i64.wrap (r8.2.2.2.2+1)),()) ()) .d) (.k n_)) (.k n_)
def zIq (zH:yB->Int->Int->Bool×Int) (x:zx8) (y:Unit):=zAu zH x.1 x.2.1 x.2.2.1 x.2.2.2.1 x.2.2.2.2.1
def zAi (zH:yB->Int->Int->Bool×Int) (n:Nat) (a:yB) (limit:Int) (zc5:Int) (n_:Int) (i:Int):=zB (zIq zH) default n (a,limit,zc5,n_,i,()) ()
def zYD:LL ty zx8:=za (lSl 107) (za zj (za zj (za zj (za zj zl))))
def zUh (x:zi8) (y:At×Unit):Nat:=(x.1.length+Int.toNat x.2.1+Int.toNat x.2.2.1+Int.toNat x.2.2.2.1+Int.toNat x.2.2.2.2.1+Int.toNat x.2.2.2.2.2.1+Int.toNat x.2.2.2.2.2.2.2.1+y.1.Ag.length+y.1.Items.length+1)
def zWD (x:zxS) (y:Unit):Nat:=(x.1.length+Int.toNat x.2.1+Int.toNat x.2.2.1+Int.toNat x.2.2.2.1+Int.toNat x.2.2.2.2.1+Int.toNat x.2.2.2.2.2.1+1)
def zXj (x:zx8) (y:Unit):Nat:=(x.1.length+Int.toNat x.2.1+Int.toNat x.2.2.1+Int.toNat x.2.2.2.1+Int.toNat x.2.2.2.2.1+1)
def zoU (zH:yB->Int->Int->Bool×Int):=zbZ base 136 [(79,(zuE zH))] [] [(5,(kpL [0,1,2,7,8])),(9,(kpL [0,1,2,7,8,9])),(14,(kpL [0,1,2,7,8,9,10,11])),(18,(kpL [0,1,2,7,8,9,10,12]))] [(5,1,(kpL [7])),(9,3,(kpL [0,1,2,7,8])),(14,5,(kpL [0,1,2,7,8,9,10])),(18,7,(kpL [0,1,2,7,8,9]))] [(14,spW zWC zTT (zHa zH) default zTZ zUh),(18,spW zWC zTT (zG7 zH) default zUB zUh),(9,spW zYc z6k (zIv zH) default zWx zWD),(5,spW zYD z6k (zIq zH) default zO0 zXj)] []
theorem zTV (zH:yB->Int->Int->Bool×Int):zI (zoU zH) (lp (body f79) 2):=zo (id:=14) (hl:=rfl)
theorem zUD (zH:yB->Int->Int->Bool×Int):zI (zoU zH) (lp (body f79) 3):=zo (id:=18) (hl:=rfl)
theorem zVh (zH:yB->Int->Int->Bool×Int):zI (zoU zH) (lp (body f79) 1):=zo (id:=9) (hl:=rfl)
theorem zV8 (zH:yB->Int->Int->Bool×Int):zI (zoU zH) (lp (body f79) 0):=zo (id:=5) (hl:=rfl)
def zBw (zH:yB->Int->Int->Bool×Int) (a:yB) (limit:Int) (zc5:Int):Wy0 (Int):=.i (zc5==0) (.k (IntKind.i64.wrap (limit+1))) (.bn (zAi zH (a.length+limit.toNat +zc5.toNat +Int.toNat 0+Int.toNat 0+1) a limit zc5 0 0) λr10=>.k r10)
def zuu (zH:yB->Int->Int->Bool×Int) (a:yB) (limit:Int) (zc5:Int):=(zBw zH a limit zc5).fin default
theorem zRG (zH:yB->Int->Int->Bool×Int) (z00:SdP 79 (zuE zH)):SdP 79 (zuE (zuu zH)):=
 sT (cx':=(zoU zH)) (zi ⟨z00,trivial⟩) call79 func79 (lOK (aC (zV8 zH) (aC (zVh zH) (aC (zTV zH) (aC (zUD zH) aN)))))
def zZh:Nat->(yB->Int->Int->Bool×Int)
 | 0=>λ_ _ _=>(false,default)
 | n+1=>zuu (zZh n)
def zqg (n:Nat):yB->Int->Int->Bool×Int:=zZh n
theorem zIH (n:Nat):zqg (n+1)=zuu (zqg n):=rfl
theorem zSX:∀ n,SdP 79 (zuE (zqg n))
 | 0=>zbk call79 (λ_=>rfl)
 | n+1=>by
  have ih:=zSX n;exact zRG _ (ih)
def zKH:yB->Int->Int->Bool×Int:=zqg 1000
def zII:Ab.Spec ty:=zuE zKH
theorem zWz:SdP 79 zII:=(zSX 1000)
abbrev zC9:=Int×yA×Int×Unit
def zLK (limit:Int) (l:yA) (i:Int):Wy zC9 Unit (Bool⊕Unit):=.i (decide (i<Int.ofNat l.length)) (.i (decide (0<=i)&&decide (i<Int.ofNat l.length)) (.bn (zKH (l.getD i.toNat default) limit 12) λr0=>.i (decide (r0>limit)) (.k (.inl false)) (.h (limit,l,(IntKind.i64.wrap (i+1)),()) ())) .d) (.k (.inr ()))
def zVg (x:zC9) (y:Unit):=zLK x.1 x.2.1 x.2.2.1
def zLa (n:Nat) (limit:Int) (l:yA) (i:Int):=zB (zVg) (.inl default) n (limit,l,i,()) ()
def z9x:LL ty zC9:=za zj (za (lSl 51) (za zj zl))
def z6Y (x:zC9) (y:Unit):Nat:=(Int.toNat x.1+x.2.1.length+Int.toNat x.2.2.1+1)
def zUW:=zbZ base 20 [(79,zII)] [] [(2,(kpL [0,1,5]))] [(2,1,[]),(2,0,(kpL [4]))] [(2,spW z9x z6k (zVg) (.inl default) znl z6Y)] []
theorem z6Z:zI zUW (lp (body f36) 0):=zo (id:=2) (hl:=rfl)
def zZc (limit:Int) (l:yA):Wy0 (Bool):=.bn (zLa (limit.toNat +l.length+Int.toNat 0+1) limit l 0) λr2=>.i (isL r2) (.k (getL r2)) (.k true)
def zBS (limit:Int) (l:yA):=(zZc limit l).fin default
def z9Q:AL base (Int×yA×Unit):=zd (ze zgq) (zd (ze (vSl 51)) zr)
def zOS:=zh z9Q λx=>((zBS x.1 x.2.1).1,zUI (zBS x.1 x.2.1).2)
theorem z1x:SdP 36 zOS:=
 sT (cx':=zUW) (zi ⟨zWz,trivial⟩) call36 func36 (lOK (aC z6Z aN))
abbrev zm9:=Int×Int×List Relation×Int×Int×Unit
abbrev zDX:=Bool⊕(Int×Int×List Relation×Int)
abbrev zDk:=Int×Int×List Relation×Int×Unit
def zLC (rows:Int) (weight:Int) (l:List Relation) (i:Int) (k:Int):Wy zm9 Unit zDX:=.i (decide (0<=i)&&decide (i<Int.ofNat l.length)) (.i (decide (k<Int.ofNat (l.getD i.toNat default).Columns.length)) (.i (decide (0<=i)&&decide (i<Int.ofNat l.length)) (.i (decide (0<=k)&&decide (k<Int.ofNat (l.getD i.toNat default).Columns.length)) (.i (decide (Int.ofNat ((l.getD i.toNat default).Columns.getD k.toNat default).Name.size>100)) (.k (.inl false)) (.h (rows,weight,l,i,(IntKind.i64.wrap (k+1)),()) ())) .d) .d) (.k (.inr (rows,weight,l,i)))) .d
def zJ2 (x:zm9) (y:Unit):=zLC x.1 x.2.1 x.2.2.1 x.2.2.2.1 x.2.2.2.2.1
def zUP (n:Nat) (rows:Int) (weight:Int) (l:List Relation) (i:Int) (k:Int):=zB (zJ2) (.inl default) n (rows,weight,l,i,k,()) ()
def z68 (r:zDX):LTree ty:=.ite (isL r) (.done .ret [.lit (.bool (getL r))] []) (.done (.exit 2) [.lit (.int .i64 (getR r).1),.lit (.int .i64 (getR r).2.1),.sl 25 (getR r).2.2.1,.lit (.int .i64 (getR r).2.2.2)] [])
def z89:LL ty zm9:=za zj (za zj (za (lSl 25) (za zj (za zj zl))))
def zHR (rows:Int) (weight:Int) (l:List Relation) (i:Int) (k:Int):Wy zm9 Unit zDX:=.i (decide (0<=i)&&decide (i<Int.ofNat l.length)) (.i (decide (k<Int.ofNat (l.getD i.toNat default).Rows.length)) (.i (decide (0<=i)&&decide (i<Int.ofNat l.length)) (.i (decide (0<=k)&&decide (k<Int.ofNat (l.getD i.toNat default).Rows.length)) (.bn (zxd ((l.getD i.toNat default).Rows.getD k.toNat default).Values 20) λr1=>.i (!r1) (.k (.inl false)) (.i (decide (0<=i)&&decide (i<Int.ofNat l.length)) (.i (decide (0<=k)&&decide (k<Int.ofNat (l.getD i.toNat default).Rows.length)) (.bn (zBS weight [((l.getD i.toNat default).Rows.getD k.toNat default).Ann]) λr0=>.i (!r0) (.k (.inl false)) (.h (rows,weight,l,i,(IntKind.i64.wrap (k+1)),()) ())) .d) .d)) .d) .d) (.k (.inr (rows,weight,l,i)))) .d
def zHF (x:zm9) (y:Unit):=zHR x.1 x.2.1 x.2.2.1 x.2.2.2.1 x.2.2.2.2.1
def zSM (n:Nat) (rows:Int) (weight:Int) (l:List Relation) (i:Int) (k:Int):=zB (zHF) (.inl default) n (rows,weight,l,i,k,()) ()
def z4R (r:zDX):LTree ty:=.ite (isL r) (.done .ret [.lit (.bool (getL r))] []) (.done (.exit 4) [.lit (.int .i64 (getR r).1),.lit (.int .i64 (getR r).2.1),.sl 25 (getR r).2.2.1,.lit (.int .i64 (getR r).2.2.2)] [])
def zKC (rows:Int) (weight:Int) (l:List Relation) (i:Int):Wy zDk Unit (Bool⊕Unit):=.i (decide (i<Int.ofNat l.length)) (.i (decide (0<=i)&&decide (i<Int.ofNat l.length)) (.i (decide (Int.ofNat (l.getD i.toNat default).Rows.length>rows)) (.k (.inl false)) (.i (decide (0<=i)&&decide (i<Int.ofNat l.length)) (.i (decide (Int.ofNat (l.getD i.toNat default).Columns.length>20)) (.k (.inl false)) (.bn (zUP (rows.toNat +weight.toNat +l.length+i.toNat +Int.toNat 0+1000) rows weight l i 0) λr5=>.i (isL r5) (.k (.inl (getL r5))) (.bn (zSM ((getR r5).1.toNat +(getR r5).2.1.toNat +(getR r5).2.2.1.length+(getR r5).2.2.2.toNat +Int.toNat 0+1000) (getR r5).1 (getR r5).2.1 (getR r5).2.2.1 (getR r5).2.2.2 0) λr4=>.i (isL r4) (.k (.inl (getL r4))) (.h ((getR r4).1,(getR r4).2.1,(getR r4).2.2.1,(IntKind.i64.wrap ((getR r4).2.2.2+1)),()) ())))) .d)) .d) (.k (.inr ()))
def zLJ (x:zDk) (y:Unit):=zKC x.1 x.2.1 x.2.2.1 x.2.2.2.1
def zVC (n:Nat) (rows:Int) (weight:Int) (l:List Relation) (i:Int):=zB (zLJ) (.inl default) n (rows,weight,l,i,()) ()
def z8P:LL ty zDk:=za zj (za zj (za (lSl 25) (za zj zl)))
def z6u (x:zm9) (y:Unit):Nat:=(Int.toNat x.1+Int.toNat x.2.1+x.2.2.1.length+Int.toNat x.2.2.2.1+Int.toNat x.2.2.2.2.1+1000)
def z6y (x:zDk) (y:Unit):Nat:=(Int.toNat x.1+Int.toNat x.2.1+x.2.2.1.length+Int.toNat x.2.2.2.1+1000)
def zDm:=zbZ base 90 [(18,zLi),(36,zOS)] [] [(2,(kpL [0,1,2,7])),(7,(kpL [0,1,2,7,8])),(12,(kpL [0,1,2,7,9]))] [(2,1,[]),(2,0,(kpL [6])),(7,3,(kpL [0,1,2,7])),(7,0,(kpL [6])),(12,5,(kpL [0,1,2,7])),(12,0,(kpL [6]))] [(7,spW z89 z6k (zJ2) (.inl default) z68 z6u),(12,spW z89 z6k (zHF) (.inl default) z4R z6u),(2,spW z8P z6k (zLJ) (.inl default) znl z6y)] []
theorem z6W:zI zDm (lp (body f11) 1):=zo (id:=7) (hl:=rfl)
theorem z4j:zI zDm (lp (body f11) 2):=zo (id:=12) (hl:=rfl)
theorem z63:zI zDm (lp (body f11) 0):=zo (id:=2) (hl:=rfl)
def zZk (rows:Int) (weight:Int) (l:List Relation):Wy0 (Bool):=.bn (zVC (rows.toNat +weight.toNat +l.length+Int.toNat 0+1000) rows weight l 0) λr8=>.i (isL r8) (.k (getL r8)) (.k true)
def zB0 (rows:Int) (weight:Int) (l:List Relation):=(zZk rows weight l).fin default
def z9W:AL base (Int×Int×List Relation×Unit):=zd (ze zgq) (zd (ze zgq) (zd (ze (vSl 25)) zr))
def zPu:=zh z9W λx=>((zB0 x.1 x.2.1 x.2.2.1).1,zUI (zB0 x.1 x.2.1 x.2.2.1).2)
theorem z2B:SdP 11 zPu:=
 sT (cx':=zDm) (zi ⟨zYJ,z1x,trivial⟩) call11 func11 (lOK (aC z63 (aC z6W (aC z4j aN))))
def zKD:=zbv base 10 []
def zLZ (c:Column) (d:Column):Wy0 (Bool):=.k (c.Type_==d.Type_)
def znI (c:Column) (d:Column):=(zLZ c d).fin default
def zMe:AL base (Column×Column×Unit):=zd (ze (zbX 75)) (zd (ze (zbX 75)) zr)
def zom:=zh zMe λx=>((znI x.1 x.2.1).1,zUI (znI x.1 x.2.1).2)
theorem zvj:SdP 120 zom:=
 sT (cx':=zKD) (zi trivial) call120 func120 (lOK aN)
abbrev zcc:=yH×Unit×yH×Int×Int×Unit
def zbx (s2:yH) (t15:yH) (t16:Int) (t17:Int):Wy zcc Unit (Bool⊕Unit):=.i (decide (t17<t16)) (.i (decide (0<=t17)&&decide (t17<Int.ofNat t15.length)) (.i (decide (0<=t17)&&decide (t17<Int.ofNat s2.length)) (.i (!(znI (t15.getD t17.toNat default) (s2.getD t17.toNat default)).2) (.k (.inl false)) (.h (s2,(),t15,t16,(IntKind.i64.wrap (t17+1)),()) ())) .d) .d) (.k (.inr ()))
def zcB (x:zcc) (y:Unit):=zbx x.1 x.2.2.1 x.2.2.2.1 x.2.2.2.2.1
def zet (n:Nat) (s2:yH) (t15:yH) (t16:Int) (t17:Int):=zB (zcB) (.inl default) n (s2,(),t15,t16,t17,()) ()
def zjK:LL ty zcc:=za (lSl 75) (za (lFn 120 (zl)) (za (lSl 75) (za zj (za zj zl))))
def zjo (x:zcc) (y:Unit):Nat:=(x.1.length+x.2.2.1.length+Int.toNat x.2.2.2.1+Int.toNat x.2.2.2.2.1+1000)
def zer:=zbZ base 32 [(120,zom)] [] [(4,(kpL [1,2,15,16,17]))] [(4,1,[]),(4,0,(kpL [6]))] [(4,spW zjK z6k (zcB) (.inl default) znl zjo)] []
theorem zjv:zI zer (lp (body f119) 0):=zo (id:=4) (hl:=rfl)
def zeu (s1:yH) (s2:yH):Wy0 (Bool):=.i (Int.ofNat s1.length != Int.ofNat s2.length) (.k false) (.bn (zet (s2.length+s1.length+(Int.ofNat s1.length).toNat +Int.toNat 0+1000) s2 s1 (Int.ofNat s1.length) 0) λr0=>.i (isL r0) (.k (getL r0)) (.k true))
def zb1 (s1:yH) (s2:yH):=(zeu s1 s2).fin default
def zjR:AL base (yH×yH×Unit×Unit):=zd (ze (vSl 75)) (zd (ze (vSl 75)) (zd (ze (vFn 120 zc3)) zr))
def zec:=zh zjR λx=>((zb1 x.1 x.2.1).1,zUI (zb1 x.1 x.2.1).2)
theorem zi5:SdP 119 zec:=
 sT (cx':=zer) (zi ⟨zvj,trivial⟩) call119 func119 (lOK (aC zjv aN))
def zON:=zbv base 8 [(119,zec),(120,zom)]
def zEb (a:yH) (b:yH):Wy0 (Bool):=.bn (zb1 a b) λr0=>.k r0
def znd (a:yH) (b:yH):=(zEb a b).fin default
def zzE:=zh zyc λx=>((znd x.1 x.2.1).1,zUI (znd x.1 x.2.1).2)
theorem zJY:SdP 65 zzE:=
 sT (cx':=zON) (zi ⟨zi5,zvj,trivial⟩) call65 func65 (lOK aN)
def zCS:=zbv base 27 []
def zsw (n_:Int):Wy0 (yF):=.i (decide (n_<0)) .d (.i (decide (IntKind.i64.wrap (n_ - IntKind.i64.wrap (0 - 0))>0)) (.i (decide (0<IntKind.i64.wrap (n_ - IntKind.i64.wrap (0 - 0)))&&(decide (IntKind.i64.wrap (n_ - IntKind.i64.wrap (0 - 0))*Int.ofNat 48<=Int.ofNat zA)&&(decide (IntKind.i64.wrap (n_ - IntKind.i64.wrap (0 - 0))<=Int.ofNat zA)&& !Nat.beq 2 0))) (.k (List.take (Int.toNat 0 - Int.toNat 0) (List.replicate (IntKind.i64.wrap (n_ - IntKind.i64.wrap (0 - 0))).toNat (Row.mk [] [])))) .d) (.k []))
def zfv (n_:Int):=(zsw n_).fin default
def zBy (r:yF):ARes ty:=⟨[.own 54 r],[]⟩
def zpV:=zh zyg λx=>((zfv x.2.1).1,zBy (zfv x.2.1).2)
theorem zz9:SdP 121 zpV:=
 sT (cx':=zCS) (zi trivial) call121 func121 (lOK aN) (sg:=⟨[.own 54],[]⟩)
abbrev zhM:=List (yF)×Int×List (yF)×Int×Int×Unit
abbrev ztY:=List (yF)×Int
abbrev zhJ:=Unit×List (yF)×Int×Int×Unit
abbrev zhL:=yF×Unit
def zel (slices:List (yF)) (size:Int) (t9:List (yF)) (t10:Int) (t11:Int):Wy zhM Unit ztY:=.i (decide (t11<t10)) (.i (decide (0<=t11)&&decide (t11<Int.ofNat t9.length)) (.i (decide (IntKind.i64.wrap (size+Int.ofNat (List.length (t9.getD t11.toNat default)))<0)) .d (.h (slices,(IntKind.i64.wrap (size+Int.ofNat (List.length (t9.getD t11.toNat default)))),t9,t10,(IntKind.i64.wrap (t11+1)),()) ())) .d) (.k (slices,size))
def zjr (x:zhM) (y:Unit):=zel x.1 x.2.1 x.2.2.1 x.2.2.2.1 x.2.2.2.2.1
def zpW (n:Nat) (slices:List (yF)) (size:Int) (t9:List (yF)) (t10:Int) (t11:Int):=zB (zjr) default n (slices,size,t9,t10,t11,()) ()
def zAo (r:ztY):LTree ty:=.done (.exit 0) [.sl 23 r.1,.lit (.int .i64 r.2)] []
def zAX:LL ty zhM:=za (lSl 23) (za zj (za (lSl 23) (za zj (za zj zl))))
def zeb (t25:List (yF)) (t26:Int) (t27:Int) (newslice:yF):Wy zhJ zhL (yF):=.i (decide (t27<t26)) (.i (decide (0<=t27)&&decide (t27<Int.ofNat t25.length)) (.i (decide ((newslice.length+List.length (t25.getD t27.toNat default))*48<=zA)) (.h ((),t25,t26,(IntKind.i64.wrap (t27+1)),()) ((newslice++t25.getD t27.toNat default),())) .d) .d) (.k newslice)
def ziY (x:zhJ) (y:zhL):=zeb x.2.1 x.2.2.1 x.2.2.2.1 y.1
def zoT (n:Nat) (t25:List (yF)) (t26:Int) (t27:Int) (newslice:yF):=zB (ziY) default n ((),t25,t26,t27,()) (newslice,())
def zzw (r:yF):LTree ty:=.done (.exit 2) [.own 144] [.arr 54 r false]
def zAw:LL ty zhJ:=za (zgd 144) (za (lSl 23) (za zj (za zj zl)))
def zAb:BL ty zhL:=zge 54 false (zbe)
def zz4 (x:zhM) (y:Unit):Nat:=(x.1.length+Int.toNat x.2.1+x.2.2.1.length+Int.toNat x.2.2.2.1+Int.toNat x.2.2.2.2.1+1000)
def zzo (x:zhJ) (y:zhL):Nat:=(x.2.1.length+Int.toNat x.2.2.1+Int.toNat x.2.2.2.1+y.1.length+1000)
def zjq:=zbZ base 36 [(121,zpV)] [] [(3,(kpL [0,3,9,10,11])),(11,(kpL [6,25,26,27]))] [(3,1,(kpL [0,3])),(11,3,(kpL [6]))] [(3,spW zAX z6k (zjr) default zAo zz4),(11,spW zAw zAb (ziY) default zzw zzo)] [121]
theorem zz5:zI zjq (lp (body f66) 0):=zo (id:=3) (hl:=rfl)
theorem zzp:zI zjq (lp (body f66) 1):=zo (id:=11) (hl:=rfl)
def zq8 (slices:List (yF)):Wy0 (yF):=.bn (zpW (slices.length+Int.toNat 0+slices.length+(Int.ofNat slices.length).toNat +Int.toNat 0+1000) slices 0 slices (Int.ofNat slices.length) 0) λr2=>.bn (zfv r2.2) λr1=>.bn (zoT (r2.1.length+(Int.ofNat r2.1.length).toNat +Int.toNat 0+r1.length+1000) r2.1 (Int.ofNat r2.1.length) 0 r1) λr0=>.k r0
def zdT (slices:List (yF)):=(zq8 slices).fin default
def zBN:AL base (List (yF)×Unit):=zd (ze (vSl 23)) zr
def zn1:=zh zBN λx=>((zdT x.1).1,zBy (zdT x.1).2)
theorem zyH:SdP 66 zn1:=
 sT (cx':=zjq) (zi ⟨zz9,trivial⟩) call66 func66 (lOK (aC zz5 (aC zzp aN))) (sg:=⟨[.own 54],[]⟩)
def z13:=zbv zbt 34 [(14,zrm),(28,ziL),(65,zzE),(66,zn1)]
def zO3 (a:Relation) (b:Relation):Wy0 (Relation×Int):=.bn (zmt a) λr4=>.i (!r4) (.k ((⟨[],[]⟩:Relation),1)) (.bn (zmt b) λr3=>.i (!r3) (.k ((⟨[],[]⟩:Relation),1)) (.bn (znd a.Columns b.Columns) λr2=>.i (!r2) (.k ((⟨[],[]⟩:Relation),7)) (.bn (zdT [a.Rows,b.Rows]) λr1=>.bn (zh7 (Relation.mk a.Columns r1)) λr0=>.k (r0.1,r0.2))))
def zy1 (a:Relation) (b:Relation):=(zO3 a b).fin default
def z4w:AL zbt (Relation×Relation×Unit):=zd (ze (zbX 25)) (zd (ze (zbX 25)) zr)
def zIK:=zh z4w λx=>((zy1 x.1 x.2.1).1,zOD (zy1 x.1 x.2.1).2)
theorem zWa:Sound Tryz.prog zbt 26 zIK:=
 sU (cx':=z13) (zi ⟨zvO.nodr,zlb,zJY.nodr,zyH.nodr,trivial⟩) call26 func26 (lOK aN) (sg:=⟨[.pure,.pure],[]⟩)
def z0X:=zbv zbt 12 [(28,ziL)]
def zNb (t:Table):Wy0 (Relation×Int):=.bn (zh7 (Relation.mk t.Columns t.Rows)) λr0=>.k (r0.1,r0.2)
def zso (t:Table):=(zNb t).fin default
def z2V:AL zbt (Table×Unit):=zd (ze (zbX 36)) zr
def zGe:=zh z2V λx=>((zso x.1).1,zOD (zso x.1).2)
theorem zTM:Sound Tryz.prog zbt 21 zGe:=
 sU (cx':=z0X) (zi ⟨zlb,trivial⟩) call21 func21 (lOK aN) (sg:=⟨[.pure,.pure],[]⟩)
abbrev zk3:=Unit×Unit×Unit×Unit×Unit
abbrev zdV:=Relation×Relation×Relation×Relation×Unit
abbrev zli:=Unit×Unit×Unit×Unit×Int×Unit
abbrev zdQ:=Unit×Unit×Unit
abbrev zcW:=Relation×Relation×Unit
def zkv (a:Relation) (b:Relation) (x_:Relation) (y_:Relation):Wy zk3 zdV (Bool):=.bn (zy1 a b) λr2=>.bn (zGD a b) λr1=>.bn (zwi r2.1 r2.2 r1.1 r1.2) λr0=>.k r0
def zkt (x:zk3) (y:zdV):=zkv y.1 y.2.1 y.2.2.1 y.2.2.2.1
def zrL (n:Nat) (a:Relation) (b:Relation) (x_:Relation) (y_:Relation):=zB (zkt) default n ((),(),(),(),()) (a,b,x_,y_,())
def zBD (r:Bool):LTree ty:=.done .ret [.lit (.bool r)] []
def zCO:LL ty zk3:=za (zcI 256 0) (za (zcI 257 0) (za (zcI 258 0) (za (zcI 259 0) zl)))
def zCL:BL ty zdV:=zd7 (zdv (λx=>(⟨x.1,x.2.1⟩:Relation)) (λx=>(x.Columns,x.Rows,())) (λ_=>rfl) (za (lSl 75) (za (lSl 54) zl))) false (zd7 (zdv (λx=>(⟨x.1,x.2.1⟩:Relation)) (λx=>(x.Columns,x.Rows,())) (λ_=>rfl) (za (lSl 75) (za (lSl 54) zl))) false (zd7 (zdv (λx=>(⟨x.1,x.2.1⟩:Relation)) (λx=>(x.Columns,x.Rows,())) (λ_=>rfl) (za (lSl 75) (za (lSl 54) zl))) false (zd7 (zdv (λx=>(⟨x.1,x.2.1⟩:Relation)) (λx=>(x.Columns,x.Rows,())) (λ_=>rfl) (za (lSl 75) (za (lSl 54) zl))) false (zbe))))
def zkJ (f:Int) (a:Relation) (b:Relation) (x_:Relation) (y_:Relation):Wy zli zdV (Bool):=.bn (zso (Table.mk 3 (ByteArray.mk #[]) a.Columns a.Rows)) λr8=>.bn (zwi r8.1 r8.2 y_ f) λr7=>.i (!r7) (.k false) (.bn (zrL 1 a b r8.1 y_) λr6=>.k r6)
def zlh (x:zli) (y:zdV):=zkJ x.2.2.2.2.1 y.1 y.2.1 y.2.2.1 y.2.2.2.1
def zsY (n:Nat) (f:Int) (a:Relation) (b:Relation) (x_:Relation) (y_:Relation):=zB (zlh) default n ((),(),(),(),f,()) (a,b,x_,y_,())
def zDa:LL ty zli:=za (zcI 256 0) (za (zcI 257 0) (za (zcI 258 0) (za (zcI 259 0) (za zj zl))))
def zkN (a:Relation) (b:Relation):Wy zdQ zcW (Bool):=.bn (zh7 a) λr15=>.bn (zlm a) λr14=>.bn (zwi r15.1 r15.2 r14.1 r14.2) λr13=>.i (!r13) (.k false) (.bn (zsY 1 r14.2 a b r15.1 r14.1) λr12=>.k r12)
def zkZ (x:zdQ) (y:zcW):=zkN y.1 y.2.1
def ztn (n:Nat) (a:Relation) (b:Relation):=zB (zkZ) default n ((),(),()) (a,b,())
def zDf:LL ty zdQ:=za (zcI 256 0) (za (zcI 257 0) zl)
def zDw:BL ty zcW:=zd7 (zdv (λx=>(⟨x.1,x.2.1⟩:Relation)) (λx=>(x.Columns,x.Rows,())) (λ_=>rfl) (za (lSl 75) (za (lSl 54) zl))) false (zd7 (zdv (λx=>(⟨x.1,x.2.1⟩:Relation)) (λx=>(x.Columns,x.Rows,())) (λ_=>rfl) (za (lSl 75) (za (lSl 54) zl))) false (zbe))
def zkE (a:Relation) (b:Relation):Wy zdQ zcW (Bool):=.bn (zB0 8 30 [a,b]) λr21=>.i (!r21) (.k true) (.bn (ztn 1 a b) λr20=>.k r20)
def zll (x:zdQ) (y:zcW):=zkE y.1 y.2.1
def ztl (n:Nat) (a:Relation) (b:Relation):=zB (zll) default n ((),(),()) (a,b,())
def zeP:=zbbn zbt 64 [(10,zKR),(11,zPu),(21,zGe),(25,zNk),(26,zIK),(28,ziL),(29,zwj),(30,zQj)] [] [(3,(kpL [2,3])),(5,(kpL [2,3])),(9,(kpL [2,3,5,7,8])),(12,(kpL [2,3,5,7]))] [(3,0,(kpL [4])),(5,0,(kpL [4])),(9,0,(kpL [4])),(12,0,(kpL [4]))] [] [] [(12,spW zCO zCL (zkt) default zBD λx y=>(1)),(9,spW zDa zCL (zlh) default zBD λx y=>(1)),(5,spW zDf zDw (zkZ) default zBD λx y=>(1)),(3,spW zDf zDw (zll) default zBD λx y=>(1))]
theorem zBJ:zLH zeP (jn (body f6) 12):=zRO (id:=12) (hl:=rfl)
theorem zCE:zLH zeP (jn (body f6) 9):=zRO (id:=9) (hl:=rfl)
theorem zCJ:zLH zeP (jn (body f6) 5):=zRO (id:=5) (hl:=rfl)
theorem zCV:zLH zeP (jn (body f6) 3):=zRO (id:=3) (hl:=rfl)
def ztX (a:Relation) (b:Relation):Wy0 (Bool):=.bn (ztl 1 a b) λr24=>.k r24
def zey (a:Relation) (b:Relation):=(ztX a b).fin default
def zEv:AL zbt zcW:=zd (ze (zbX 25)) (zd (ze (zbX 25)) zr)
def zjX:=zh zEv λx=>((zey x.1 x.2.1).1,zUI (zey x.1 x.2.1).2)
theorem zAH:Sound Tryz.prog zbt 6 zjX:=
 z3M (cx':=zeP) zA5 zSI zbfK (zbdx ⟨zX7,z2B.nodr,zTM,zZO.nodr,zWa,zlb,zCt.nodr,z1B.nodr,trivial⟩) call6 func6 (c:=body f6) (by kernel_rfl) (z6o (l:=[]) (by kernel_rfl) trivial (js:=[jn (body f6) 3,jn (body f6) 5,jn (body f6) 9,jn (body f6) 12]) (by kernel_rfl) ⟨zCV,zCJ,zCE,zBJ,trivial⟩) (sg:=⟨[.pure],[]⟩)
def trV (v:Value):TT:=.l [.i v.Kind,.i v.Int,trB v.Text]
mutual
def zdO:At->TT
 | ⟨k,r,a,f,i,o,b⟩=>.l [.i k,.i r.Table,.i r.Seq,.l (zwX a),.i f,.l (zhp i),.i o,trV b]
def zrh:Fc->TT
 | ⟨x,e⟩=>.l [zdO x,.i e]
def zby:yC->List TT
 | []=>[]
 | x::r=>zrh x::zby r
def zyQ:Term->TT
 | ⟨c,fs⟩=>.l [.l (zby fs),.i c]
def zdl:yB->List TT
 | []=>[]
 | x::r=>zyQ x::zdl r
def zwX:yA->List TT
 | []=>[]
 | x::r=>.l (zdl x)::zwX r
def zbc:Wd->TT
 | ⟨v,a⟩=>.l [trV v,.l (zdl a)]
def zhp:yD->List TT
 | []=>[]
 | x::r=>zbc x::zhp r
end
theorem zwI:∀ l,zby l=l.map zrh
 | []=>by rw [zby]; rfl
 | x::r=>by rw [zby,zwI r]; rfl
theorem zGs:∀ l,zdl l=l.map zyQ
 | []=>by rw [zdl]; rfl
 | x::r=>by rw [zdl,zGs r]; rfl
theorem zDq:∀ l,zwX l=l.map λx=>.l (zdl x)
 | []=>by rw [zwX]; rfl
 | x::r=>by rw [zwX,zDq r]; rfl
theorem zmF:∀ l,zhp l=l.map zbc
 | []=>by rw [zhp]; rfl
 | x::r=>by rw [zhp,zmF r]; rfl
theorem zHZ:∀ a b:List UInt8,(a.map λx=>TT.i (x.toNat:Int))=(b.map λx=>TT.i (x.toNat:Int))->a=b
 | [],[]=>λ_=>rfl
 | [],_::_=>λh=>by simp at h
 | _::_,[]=>λh=>by simp at h
 | x::a,y::b=>λh=>by
  simp only [List.map,qj,TT.i.injEq] at h;rw [zHZ a b h.2,UInt8.toNat_inj.1 (Int.ofNat.inj h.1)]
theorem z3S {a b:Value} (h:trV a=trV b):a=b:=by
 obtain ⟨k,n,s⟩:=a; obtain ⟨k',n',s'⟩:=b;simp only [trV,trB,TT.l.injEq,qj,TT.i.injEq,and_true] at h;obtain ⟨rfl,rfl,h⟩:=h;have:=zHZ _ _ h;obtain ⟨⟨l⟩⟩:=s; obtain ⟨⟨l'⟩⟩:=s';simp only at this; subst this; rfl
mutual
theorem z1M:∀ a b:At,zdO a=zdO b->a=b
 | ⟨k,r,a,f,i,o,v⟩,⟨k',r',a',f',i',o',v'⟩=>λh=>by
  simp only [zdO,TT.l.injEq,qj,TT.i.injEq,and_true] at h;obtain ⟨rfl,h1,h2,h3,rfl,h4,rfl,h5⟩:=h;obtain ⟨t,s⟩:=r; obtain ⟨t',s'⟩:=r';simp only at h1 h2; subst h1 h2;rw [z1w a a' h3,zZA i i' h4,z3S h5]
theorem z9t:∀ a b:Fc,zrh a=zrh b->a=b
 | ⟨x,e⟩,⟨x',e'⟩=>λh=>by
  simp only [zrh,TT.l.injEq,qj,TT.i.injEq,and_true] at h;rw [z1M x x' h.1,h.2]
theorem zA8:∀ a b:yC,zby a=zby b->a=b
 | [],[]=>λ_=>rfl
 | [],_::_=>λh=>by simp [zby] at h
 | _::_,[]=>λh=>by simp [zby] at h
 | x::a,y::b=>λh=>by
  simp only [zby,qj] at h;rw [z9t x y h.1,zA8 a b h.2]
theorem zbbC:∀ a b:Term,zyQ a=zyQ b->a=b
 | ⟨c,l⟩,⟨c',l'⟩=>λh=>by
  simp only [zyQ,TT.l.injEq,qj,TT.i.injEq,and_true] at h;rw [zA8 l l' h.1,h.2]
theorem zGh:∀ a b:yB,zdl a=zdl b->a=b
 | [],[]=>λ_=>rfl
 | [],_::_=>λh=>by simp [zdl] at h
 | _::_,[]=>λh=>by simp [zdl] at h
 | x::a,y::b=>λh=>by
  simp only [zdl,qj] at h;rw [zbbC x y h.1,zGh a b h.2]
theorem z1w:∀ a b:yA,zwX a=zwX b->a=b
 | [],[]=>λ_=>rfl
 | [],_::_=>λh=>by simp [zwX] at h
 | _::_,[]=>λh=>by simp [zwX] at h
 | x::a,y::b=>λh=>by
  simp only [zwX,qj,TT.l.injEq] at h;rw [zGh x y h.1,z1w a b h.2]
theorem z2k:∀ a b:Wd,zbc a=zbc b->a=b
 | ⟨c,l⟩,⟨c',l'⟩=>λh=>by
  simp only [zbc,TT.l.injEq,qj,and_true] at h;rw [z3S h.1,zGh l l' h.2]
theorem zZA:∀ a b:yD,zhp a=zhp b->a=b
 | [],[]=>λ_=>rfl
 | [],_::_=>λh=>by simp [zhp] at h
 | _::_,[]=>λh=>by simp [zhp] at h
 | x::a,y::b=>λh=>by
  simp only [zhp,qj] at h;rw [z2k x y h.1,zZA a b h.2]
end
def zc7 (P:yB->Prop) (x:At):Prop:=
 (x.Ag.length<=1000000/\x.Items.length<=1000000/\x.Bd.Text.size<=1000000000000)/\(∀ a∈x.Ag,P a)/\∀ w∈x.Items,w.Value.Text.size<=1000000000000/\P w.Ann
def zgJ (P:yB->Prop) (l:yC):Prop:=l.length<=1000000/\∀ f∈l,zc7 P f.At
def zp:Nat->yB->Prop
 | 0,_=>False
 | n+1,a=>a.length<=1000000/\∀ t∈a,zgJ (zp n) t.Fs
theorem zc7.imp {P Q:yB->Prop} (h:∀ a,P a->Q a) {x:At} (hx:zc7 P x):zc7 Q x:=⟨hx.1,λa ha=>h a (hx.2.1 a ha),λw hw=>⟨(hx.2.2 w hw).1,h _ (hx.2.2 w hw).2⟩⟩
theorem zp.succ:∀ (n:Nat) (a:yB),zp n a->zp (n+1) a
 | 0,_,h=>h.elim
 | n+1,a,h=>⟨h.1,λt ht=>⟨(h.2 t ht).1,λf hf=>((h.2 t ht).2 f hf).imp (zp.succ n)⟩⟩
theorem zp.mono {n m:Nat} {a:yB} (h:zp n a) (hm:n<=m):zp m a:=by
 obtain ⟨k,rfl⟩:=Nat.exists_eq_add_of_le hm;clear hm;induction k with
 | zero=>exact h
 | succ k ih=>exact zp.succ _ _ ih
theorem zoc:∀ {l:yC},zsA l->∀ x∈l,zvT x
 | [],_,x,hx=>by cases hx
 | y::r,h,x,hx=>by
  unfold zsA at h;rcases qd.1 hx with rfl | hx
  ·exact h.1
  ·exact zoc h.2 x hx
theorem ztf:∀ {l:yB},zgE l->∀ x∈l,zAY x
 | [],_,x,hx=>by cases hx
 | y::r,h,x,hx=>by
  unfold zgE at h;rcases qd.1 hx with rfl | hx
  ·exact h.1
  ·exact ztf h.2 x hx
theorem zjN:∀ {l:yA},zw7 l->∀ x∈l,zgE x/\x.length<=zZ
 | [],_,x,hx=>by cases hx
 | y::r,h,x,hx=>by
  unfold zw7 at h;rcases qd.1 hx with rfl | hx
  ·exact h.1
  ·exact zjN h.2 x hx
theorem zjz:∀ {l:yD},zsu l->∀ x∈l,zND x.Value/\zgE x.Ann/\x.Ann.length<=zZ
 | [],_,x,hx=>by cases hx
 | y::r,h,x,hx=>by
  unfold zsu at h;rcases qd.1 hx with rfl | hx
  ·have:=h.1; unfold zF5 at this; exact ⟨this.1,this.2.1,this.2.2⟩
  ·exact zjz h.2 x hx
theorem zvB {t:Term} (h:zAY t):wf2 t.Cf/\zsA t.Fs/\t.Fs.length<=zZ:=by
 unfold zAY at h; exact ⟨h.1,h.2.1,h.2.2⟩
theorem zq4 {t:Fc} (h:zvT t):zgB t.At/\wf3 t.Exp:=by
 unfold zvT at h; exact h
theorem zsD {x:At} (h:zgB x):(zw7 x.Ag/\x.Ag.length<=zZ)/\(zsu x.Items/\x.Items.length<=zZ)/\zND x.Bd/\wf3 x.Kind/\zZX x.Row/\wf3 x.Func/\wf3 x.Op:=by
 obtain ⟨k,r,a,f,i,o,b⟩:=x; unfold zgB at h; exact ⟨h.2.2.1,h.2.2.2.2.1,h.2.2.2.2.2.2,h.1,h.2.1,h.2.2.2.1,h.2.2.2.2.2.1⟩
theorem zeH {z:Int} (h0: -4611686018427387904<=z) (h:z<4611686018427387904):IntKind.i64.wrap z=z:=zXO (by omega) (by omega)
mutual
def zE1:At->Nat
 | ⟨_,_,a,_,i,_,b⟩=>i.length+a.length+b.Text.size+zqn a+zk0 i
def zhk:yC->Nat
 | []=>0
 | ⟨x,_⟩::r=>zE1 x+zhk r
def zej:yB->Nat
 | []=>0
 | ⟨_,fs⟩::r=>1+fs.length+zhk fs+zej r
def zqn:yA->Nat
 | []=>0
 | a::r=>zej a+zqn r
def zk0:yD->Nat
 | []=>0
 | ⟨v,a⟩::r=>v.Text.size+zej a+zk0 r
end
theorem z1Q (x:At):zE1 x=x.Items.length+x.Ag.length+x.Bd.Text.size+zqn x.Ag+zk0 x.Items:=by cases x; rw [zE1]
theorem zNd (f:Fc) (r:yC):zhk (f::r)=zE1 f.At+zhk r:=by cases f; rw [zhk]
theorem zNW (t:Term) (r:yB):zej (t::r)=1+t.Fs.length+zhk t.Fs+zej r:=by cases t; rw [zej]
theorem zVw (a:yB) (r:yA):zqn (a::r)=zej a+zqn r:=by rw [zqn]
theorem zHG (w:Wd) (r:yD):zk0 (w::r)=w.Value.Text.size+zej w.Ann+zk0 r:=by cases w; rw [zk0]
theorem zbac:zqn []=0:=by rw [zqn]
theorem z8F:zk0 []=0:=by rw [zk0]
theorem z4H:zhk []=0:=by rw [zhk]
theorem zbbG:zej []=0:=by rw [zej]
section
variable (g:yB->Int->Int->Bool×Int) (a:yB) (limit d:Nat) (hl:limit<=1000) (hd:d<=100) (B:Nat) (hB:B<=1152921504606846976) (P:yB->Prop)
include hl hd hB
theorem w14 (x:At) (i k:Int) (hlen:x.Ag.length<=zZ) (hg:∀ y∈x.Ag,∀ l:Nat,l<=1000->∃ w:Nat,g y l d=(true,(w:Int))/\w<=B/\(w<=l->P y/\zej y<=w)):
  ∀ (fuel j n:Nat),x.Ag.length<j+fuel->j<=x.Ag.length->n<=2305843009213693952->∃ n':Nat,zys g fuel a limit (d+1:Nat) n i k j x=(true,(a,(limit:Int),((d+1:Nat):Int),(n':Int),i,k,x))/\n<=n'/\n'<=max n (limit+B)/\(n'<=limit->(∀ y∈x.Ag.drop j,P y)/\n+zqn (x.Ag.drop j)<=n')
 | 0,j,n,h1,h2,h3=>by omega
 | fuel+1,j,n,h1,h2,h3=>by
  show ∃ n':Nat,(zza g a limit (d+1:Nat) n i k j x).ev (λx y=>zys g fuel x.1 x.2.1 x.2.2.1 x.2.2.2.1 x.2.2.2.2.1 x.2.2.2.2.2.1 x.2.2.2.2.2.2.2.1 y.1) (λr=>(true,r)) (false,default)=_/\_
  unfold zza;have hml:zZ=140737488351232:=rfl;by_cases hj:j<x.Ag.length
  ·by_cases hn:n<=limit
   ·have e1:IntKind.i64.wrap ((limit:Int) - (n:Int))=((limit - n:Nat):Int):=by rw [zeH (by omega) (by omega)]; omega
    obtain ⟨w,hw,hwB,hwP⟩:=hg _ (zn hj) (limit - n) (by omega)
    have ed:IntKind.i64.wrap (((d+1:Nat):Int) - 1)=(d:Int):=by rw [zeH (by omega) (by omega)]; omega
    simp only [Wy.ev_i,Wy.ev_k,Wy.ev_h,Wy.ev_bn,Wy.ev_d,tT,hj,zoF,hn,e1,ed,hw];have e3:IntKind.i64.wrap ((n:Int)+(w:Int))=((n+w:Nat):Int):=by rw [zeH (by omega) (by omega)]; omega
    rw [e3,zw (by omega)]
    obtain ⟨n',h4,h5,h6,h7⟩:=w14 x i k hlen hg fuel (j+1) (n+w) (by omega) (by omega) (by omega)
    refine ⟨n',h4,by omega,by omega,λhn'=> ?_⟩
    obtain ⟨h8,h9⟩:=h7 hn';obtain ⟨p1,p2⟩:=hwP (by omega)
    rw [zbg hj,zVw];refine ⟨λy hy=> ?_,by omega⟩
    rcases qd.1 hy with rfl | hy
    ·exact p1
    ·exact h8 y hy
   ·simp only [Wy.ev_i,Wy.ev_k,Wy.ev_h,Wy.ev_bn,Wy.ev_d,tT,hj,zoF,hn];exact ⟨n,rfl,Nat.le_refl _,by omega,λh=>absurd h hn⟩
  ·simp only [Wy.ev_i,Wy.ev_k,Wy.ev_h,Wy.ev_bn,Wy.ev_d,tT,hj];exact ⟨n,rfl,Nat.le_refl _,by omega,λ_=>by rw [zco hj,zbac]; exact ⟨λy hy=>(by cases hy),Nat.le_refl _⟩⟩
theorem w18 (x:At) (i k:Int) (hlen:x.Items.length<=zZ) (hg:∀ y∈x.Items,y.Value.Text.size<=zZ/\∀ l:Nat,l<=1000->∃ w:Nat,g y.Ann l d=(true,(w:Int))/\w<=B/\(w<=l->P y.Ann/\zej y.Ann<=w)):
  ∀ (fuel j n:Nat),x.Items.length<j+fuel->j<=x.Items.length->n<=2305843009213693952->∃ n':Nat,zyE g fuel a limit (d+1:Nat) n i k j x=(true,(a,(limit:Int),((d+1:Nat):Int),(n':Int),i,k))/\n<=n'/\n'<=max n (limit+zZ+B)/\(n'<=limit->(∀ y∈x.Items.drop j,y.Value.Text.size<=1000/\P y.Ann)/\n+zk0 (x.Items.drop j)<=n')
 | 0,j,n,h1,h2,h3=>by omega
 | fuel+1,j,n,h1,h2,h3=>by
  show ∃ n':Nat,(zyZ g a limit (d+1:Nat) n i k j x).ev (λx y=>zyE g fuel x.1 x.2.1 x.2.2.1 x.2.2.2.1 x.2.2.2.2.1 x.2.2.2.2.2.1 x.2.2.2.2.2.2.2.1 y.1) (λr=>(true,r)) (false,default)=_/\_
  unfold zyZ;have hml:zZ=140737488351232:=rfl;by_cases hj:j<x.Items.length
  ·by_cases hn:n<=limit
   ·have e1:IntKind.i64.wrap ((limit:Int) - (n:Int))=((limit - n:Nat):Int):=by rw [zeH (by omega) (by omega)]; omega
    obtain ⟨ht,hgy⟩:=hg _ (zn hj);obtain ⟨w,hw,hwB,hwP⟩:=hgy (limit - n) (by omega)
    have ed:IntKind.i64.wrap (((d+1:Nat):Int) - 1)=(d:Int):=by rw [zeH (by omega) (by omega)]; omega
    simp only [Wy.ev_i,Wy.ev_k,Wy.ev_h,Wy.ev_bn,Wy.ev_d,tT,hj,zoF,hn,e1,ed,hw];generalize hsz:(x.Items.getD j default).Value.Text.size=sz at *;have e3:IntKind.i64.wrap (IntKind.i64.wrap ((n:Int)+(sz:Int))+(w:Int))=((n+sz+w:Nat):Int):=by rw [zeH (z:=(n:Int)+(sz:Int)) (by omega) (by omega),zeH (by omega) (by omega)]; omega
    rw [e3,zw (by omega)]
    obtain ⟨n',h4,h5,h6,h7⟩:=w18 x i k hlen hg fuel (j+1) (n+sz+w) (by omega) (by omega) (by omega)
    refine ⟨n',h4,by omega,by omega,λhn'=> ?_⟩
    obtain ⟨h8,h9⟩:=h7 hn';obtain ⟨p1,p2⟩:=hwP (by omega)
    rw [zbg hj,zHG];refine ⟨λy hy=> ?_,by omega⟩
    rcases qd.1 hy with rfl | hy
    ·exact ⟨by omega,p1⟩
    ·exact h8 y hy
   ·simp only [Wy.ev_i,Wy.ev_k,Wy.ev_h,Wy.ev_bn,Wy.ev_d,tT,hj,zoF,hn];exact ⟨n,rfl,Nat.le_refl _,by omega,λh=>absurd h hn⟩
  ·simp only [Wy.ev_i,Wy.ev_k,Wy.ev_h,Wy.ev_bn,Wy.ev_d,tT,hj];exact ⟨n,rfl,Nat.le_refl _,by omega,λ_=>by rw [zco hj,z8F]; exact ⟨λy hy=>(by cases hy),Nat.le_refl _⟩⟩
theorem w9 (i:Nat) (hi:i<a.length) (hla:(a.getD i default).Fs.length<=zZ) (hg:∀ f∈(a.getD i default).Fs,f.At.Ag.length<=zZ/\f.At.Items.length<=zZ/\f.At.Bd.Text.size<=zZ/\(∀ y∈f.At.Ag,∀ l:Nat,l<=1000->∃ w:Nat,g y l d=(true,(w:Int))/\w<=B/\(w<=l->P y/\zej y<=w))/\
   ∀ y∈f.At.Items,y.Value.Text.size<=zZ/\∀ l:Nat,l<=1000->∃ w:Nat,g y.Ann l d=(true,(w:Int))/\w<=B/\(w<=l->P y.Ann/\zej y.Ann<=w)):
  ∀ (fuel k n:Nat),(a.getD i default).Fs.length<k+fuel->k<=(a.getD i default).Fs.length->n<=2305843009213693952->∃ n':Nat,zAq g fuel a limit (d+1:Nat) n i k=(true,(a,(limit:Int),((d+1:Nat):Int),(n':Int),(i:Int)))/\n<=n'/\n'<=max n (limit+4*zZ+B)/\
   (n'<=limit->(∀ f∈(a.getD i default).Fs.drop k,(f.At.Ag.length<=1000/\f.At.Items.length<=1000/\f.At.Bd.Text.size<=1000)/\(∀ y∈f.At.Ag,P y)/\∀ y∈f.At.Items,y.Value.Text.size<=1000/\P y.Ann)/\n+zhk ((a.getD i default).Fs.drop k)<=n')
 | 0,k,n,h1,h2,h3=>by omega
 | fuel+1,k,n,h1,h2,h3=>by
  show ∃ n':Nat,(zAm g a limit (d+1:Nat) n i k).ev (λx y=>zAq g fuel x.1 x.2.1 x.2.2.1 x.2.2.2.1 x.2.2.2.2.1 x.2.2.2.2.2.1) (λr=>(true,r)) (false,default)=_/\_
  unfold zAm;have hml:zZ=140737488351232:=rfl;by_cases hk:k<(a.getD i default).Fs.length
  ·by_cases hn:n<=limit
   ·simp only [Wy.ev_i,Wy.ev_k,Wy.ev_h,Wy.ev_bn,Wy.ev_d,tT,hi,hk,zoF,hn,At.eta];obtain ⟨ha1,ha2,ha3,hgA,hgI⟩:=hg _ (zn hk);generalize hf:((a.getD i default).Fs.getD k default)=f at *
    have e0:IntKind.i64.wrap (IntKind.i64.wrap (IntKind.i64.wrap ((n:Int)+(f.At.Items.length:Int))+(f.At.Ag.length:Int))+(f.At.Bd.Text.size:Int))=((n+f.At.Items.length+f.At.Ag.length+f.At.Bd.Text.size:Nat):Int):=by
     rw [zeH (z:=(n:Int)+(f.At.Items.length:Int)) (by omega) (by omega),zeH (z:=(n:Int)+(f.At.Items.length:Int)+(f.At.Ag.length:Int)) (by omega) (by omega),zeH (by omega) (by omega)]; omega
    rw [e0];obtain ⟨n1,q1,q2,q3,q4⟩:=w14 g a limit d hl hd B hB P f.At i k ha1 hgA (a.length+limit+(d+1)+((n+f.At.Items.length+f.At.Ag.length+f.At.Bd.Text.size:Nat):Int).toNat +i+k+Int.toNat 0+f.At.Ag.length+f.At.Items.length+1) 0 (n+f.At.Items.length+f.At.Ag.length+f.At.Bd.Text.size) (by omega) (by omega) (by omega)
    rw [show ((0:Nat):Int)=(0:Int) from rfl] at q1
    rw [q1];simp only [cond_true,At.eta,Int.toNat_natCast];obtain ⟨n2,r1,r2,r3,r4⟩:=w18 g a limit d hl hd B hB P f.At i k ha2 hgI (a.length+limit+(d+1)+n1+i+k+Int.toNat 0+f.At.Ag.length+f.At.Items.length+1) 0 n1 (by omega) (by omega) (by omega)
    rw [show ((0:Nat):Int)=(0:Int) from rfl] at r1
    rw [r1];simp only [cond_true];rw [zw (by omega)]
    obtain ⟨n',h4,h5,h6,h7⟩:=w9 i hi hla hg fuel (k+1) n2 (by omega) (by omega) (by omega)
    refine ⟨n',h4,by omega,by omega,λhn'=> ?_⟩
    obtain ⟨h8,h9⟩:=h7 hn';obtain ⟨q5,q6⟩:=q4 (by omega)
    obtain ⟨r5,r6⟩:=r4 (by omega)
    rw [List.drop_zero] at q5 q6 r5 r6;rw [zbg hk,zNd,hf,z1Q];refine ⟨λy hy=> ?_,by omega⟩
    rcases qd.1 hy with rfl | hy
    ·exact ⟨⟨by omega,by omega,by omega⟩,q5,r5⟩
    ·exact h8 y hy
   ·simp only [Wy.ev_i,Wy.ev_k,Wy.ev_h,Wy.ev_bn,Wy.ev_d,tT,hi,hk,zoF,hn];exact ⟨n,rfl,Nat.le_refl _,by omega,λh=>absurd h hn⟩
  ·simp only [Wy.ev_i,Wy.ev_k,Wy.ev_h,Wy.ev_bn,Wy.ev_d,tT,hi,hk];exact ⟨n,rfl,Nat.le_refl _,by omega,λ_=>by rw [zco hk,z4H]; exact ⟨λy hy=>(by cases hy),Nat.le_refl _⟩⟩
theorem w5 (hla:∀ t∈a,t.Fs.length<=zZ) (hg:∀ t∈a,∀ f∈t.Fs,f.At.Ag.length<=zZ/\f.At.Items.length<=zZ/\f.At.Bd.Text.size<=zZ/\(∀ y∈f.At.Ag,∀ l:Nat,l<=1000->∃ w:Nat,g y l d=(true,(w:Int))/\w<=B/\(w<=l->P y/\zej y<=w))/\
   ∀ y∈f.At.Items,y.Value.Text.size<=zZ/\∀ l:Nat,l<=1000->∃ w:Nat,g y.Ann l d=(true,(w:Int))/\w<=B/\(w<=l->P y.Ann/\zej y.Ann<=w)) (hlen:a.length<=zZ):
  ∀ (fuel i n:Nat),a.length<i+fuel->i<=a.length->n<=2305843009213693952->∃ n':Nat,zAi g fuel a limit (d+1:Nat) n i=(true,(n':Int))/\n<=n'/\n'<=max n (limit+6*zZ+B)/\
   (n'<=limit->(n+(a.length - i)<=n'/\n+zej (a.drop i)<=n')/\∀ t∈a.drop i,t.Fs.length<=1000/\∀ f∈t.Fs,(f.At.Ag.length<=1000/\f.At.Items.length<=1000/\f.At.Bd.Text.size<=1000)/\(∀ y∈f.At.Ag,P y)/\∀ y∈f.At.Items,y.Value.Text.size<=1000/\P y.Ann)
 | 0,i,n,h1,h2,h3=>by omega
 | fuel+1,i,n,h1,h2,h3=>by
  show ∃ n':Nat,(zAu g a limit (d+1:Nat) n i).ev (λx y=>zAi g fuel x.1 x.2.1 x.2.2.1 x.2.2.2.1 x.2.2.2.2.1) (λr=>(true,r)) (false,default)=_/\_
  unfold zAu;have hml:zZ=140737488351232:=rfl;by_cases hi:i<a.length
  ·by_cases hn:n<=limit
   ·simp only [Wy.ev_i,Wy.ev_k,Wy.ev_h,Wy.ev_bn,Wy.ev_d,tT,hi,zoF,hn];have hla':=hla _ (zn hi)
    have e0:IntKind.i64.wrap (IntKind.i64.wrap ((n:Int)+1)+((a.getD i default).Fs.length:Int))=((n+1+(a.getD i default).Fs.length:Nat):Int):=by
     rw [zw (by omega),zeH (by omega) (by omega)]; omega
    rw [e0];obtain ⟨n1,q1,q2,q3,q4⟩:=w9 g a limit d hl hd B hB P i hi hla' (hg _ (zn hi)) (a.length+limit+(d+1)+((n+1+(a.getD i default).Fs.length:Nat):Int).toNat +i+Int.toNat 0+1) 0 (n+1+(a.getD i default).Fs.length) (by omega) (by omega) (by omega)
    rw [show ((0:Nat):Int)=(0:Int) from rfl] at q1
    rw [q1];simp only [cond_true];rw [zw (by omega)]
    obtain ⟨n',h4,h5,h6,h7⟩:=w5 hla hg hlen fuel (i+1) n1 (by omega) (by omega) (by omega)
    refine ⟨n',h4,by omega,by omega,λhn'=> ?_⟩
    obtain ⟨⟨h8,h10⟩,h9⟩:=h7 hn';obtain ⟨q5,q6⟩:=q4 (by omega)
    rw [List.drop_zero] at q5 q6;rw [zbg hi,zNW];refine ⟨⟨by omega,by omega⟩,λy hy=> ?_⟩
    rcases qd.1 hy with rfl | hy
    ·exact ⟨by omega,q5⟩
    ·exact h9 y hy
   ·simp only [Wy.ev_i,Wy.ev_k,Wy.ev_h,Wy.ev_bn,Wy.ev_d,tT,hi,zoF,hn];exact ⟨n,rfl,Nat.le_refl _,by omega,λh=>absurd h hn⟩
  ·simp only [Wy.ev_i,Wy.ev_k,Wy.ev_h,Wy.ev_bn,Wy.ev_d,tT,hi];exact ⟨n,rfl,Nat.le_refl _,by omega,λ_=>by rw [zco hi,zbbG]; exact ⟨⟨by omega,Nat.le_refl _⟩,λy hy=>(by cases hy)⟩⟩
end
theorem z5A:∀ (d N:Nat),d<N->d<=12->∀ (l:Nat),l<=1000->∀ a,zgE a->a.length<=zZ->∃ w:Nat,zqg N a l d=(true,(w:Int))/\w<=(d+1)*4503599627370496/\(w<=l->zp d a/\zej a<=w)
 | _,0,h,_,_,_,_,_,_=>by omega
 | 0,N+1,_,_,l,hl,a,hw,hlen=>by
  rw [zIH];unfold zuu zBw;refine ⟨l+1, ?_,by omega,λh=>by omega⟩
  simp only [Wy.fin_i,Wy.fin_k];rw [zw (by omega)]; rfl
 | d+1,N+1,hN,hd,l,hl,a,hw,hlen=>by
  rw [zIH];unfold zuu zBw;have hml:zZ=140737488351232:=rfl;have ih:=λy (h1:zgE y) (h2:y.length<=zZ) l hl=>z5A d N (by omega) (by omega) l hl y h1 h2
  have e0:(((d+1:Nat):Int)==(0:Int))=false:=by
   rw [beq_eq_false_iff_ne]; omega
  obtain ⟨n',h1,h2,h3,h4⟩:=w5 (zqg N) a l d hl (by omega) ((d+1)*4503599627370496) (by omega) (zp d) (λt ht=>(zvB (ztf hw t ht)).2.2) (λt ht f hf=>by
   have hx:=zsD (zq4 (zoc (zvB (ztf hw t ht)).2.1 f hf)).1;refine ⟨hx.1.2,hx.2.1.2,hx.2.2.1.2.2,λy hy l hl=> ?_,λy hy=> ?_⟩
   ·have:=zjN hx.1.1 y hy;exact ih y this.1 this.2 l hl
   ·have:=zjz hx.2.1.1 y hy;exact ⟨this.1.2.2,λl hl=>ih y.Ann this.2.1 this.2.2 l hl⟩) hlen (a.length+l+(d+1)+Int.toNat 0+Int.toNat 0+1) 0 0 (by omega) (by omega) (by omega)
  rw [show ((0:Nat):Int)=(0:Int) from rfl] at h1
  refine ⟨n', ?_,by omega,λhn=> ?_⟩
  ·simp only [Wy.fin_i,Wy.fin_k,Wy.fin_bn,e0,cond_false,Int.toNat_natCast,h1,cond_true]
  ·obtain ⟨⟨h5,h12⟩,h6⟩:=h4 hn;rw [List.drop_zero] at h12;refine ⟨⟨by omega,λt ht=> ?_⟩,by omega⟩
   obtain ⟨h7,h8⟩:=h6 t (by simpa using ht)
   refine ⟨by omega,λf hf=> ?_⟩
   obtain ⟨h9,h10,h11⟩:=h8 f hf;exact ⟨⟨by omega,by omega,by omega⟩,h10,λw hw=>⟨by have:=(h11 w hw).1; omega,(h11 w hw).2⟩⟩
theorem z82 (limit:Nat) (hl:limit<=1000) (l:yA) (hll:l.length<=1000) (hw:∀ a∈l,zgE a/\a.length<=zZ):∀ (n i:Nat),l.length<i+n->i<=l.length->∃ r,zLa n limit l i=(true,r)/\((r=.inl false)\/(r=.inr ()/\∀ a∈l.drop i,zp 12 a/\zej a<=limit))
 | 0,i,h1,h2=>by omega
 | n+1,i,h1,h2=>by
  show ∃ r,(zLK limit l i).ev (λx y=>zLa n x.1 x.2.1 x.2.2.1) (λr=>(true,r)) (false,.inl default)=(true,r)/\_
  unfold zLK;by_cases hi:i<l.length
  ·obtain ⟨w,q1,q2,q3⟩:=z5A 12 1000 (by omega) (by omega) limit hl _ (hw _ (zn hi)).1 (hw _ (zn hi)).2
   have q1':zKH (l.getD i default) (limit:Int) 12=(true,(w:Int)):=q1;simp only [Wy.ev_i,Wy.ev_k,Wy.ev_h,Wy.ev_bn,Wy.ev_d,tT,hi,q1',zjp];by_cases hg:limit<w
   ·simp only [hg,decide_true,cond_true];exact ⟨_,rfl,.inl rfl⟩
   ·simp only [hg,decide_false,cond_false];rw [zw (by omega)]
    obtain ⟨r,h3,h4⟩:=z82 limit hl l hll hw n (i+1) (by omega) (by omega)
    refine ⟨r,h3, ?_⟩;rcases h4 with h4 | ⟨h4,h5⟩
    ·exact .inl h4
    ·refine .inr ⟨h4,λa ha=> ?_⟩
     rw [zbg hi] at ha;rcases qd.1 ha with rfl | ha
     ·exact ⟨(q3 (by omega)).1,by have:=(q3 (by omega)).2; omega⟩
     ·exact h5 a ha
  ·simp only [Wy.ev_i,Wy.ev_k,Wy.ev_h,Wy.ev_bn,Wy.ev_d,tT,hi];exact ⟨_,rfl,.inr ⟨rfl,λa ha=>by rw [zco hi] at ha; cases ha⟩⟩
theorem zbgP (limit:Nat) (hl:limit<=1000) (l:yA) (hll:l.length<=1000) (hw:∀ a∈l,zgE a/\a.length<=zZ):∃ b,zBS limit l=(true,b)/\(b=true->∀ a∈l,zp 12 a/\zej a<=limit):=by
 unfold zBS zZc;obtain ⟨r,h1,h2⟩:=z82 limit hl l hll hw (limit+l.length+Int.toNat 0+1) 0 (by omega) (by omega)
 rw [show ((0:Nat):Int)=(0:Int) from rfl] at h1
 rw [Wy.fin_bn];simp only [Int.toNat_natCast,h1,cond_true];rcases h2 with rfl | ⟨rfl,h2⟩
 ·exact ⟨false,rfl,λh=>by cases h⟩
 ·exact ⟨true,rfl,λ_ a ha=>h2 a (by simpa using ha)⟩
mutual
def zfa:At->Nat
 | ⟨_,_,a,_,i,_,_⟩=>ze5 a+zc6 i
def zbI:yC->Nat
 | []=>0
 | ⟨x,_⟩::r=>zfa x+zbI r
def zN:yB->Nat
 | []=>0
 | ⟨_,fs⟩::r=>1+fs.length+zbI fs+zN r
def ze5:yA->Nat
 | []=>0
 | a::r=>zN a+ze5 r
def zc6:yD->Nat
 | []=>0
 | ⟨_,a⟩::r=>1+zN a+zc6 r
end
theorem zhb (x:At):zfa x=ze5 x.Ag+zc6 x.Items:=by cases x; rw [zfa]
theorem zc2 (f:Fc) (r:yC):zbI (f::r)=zfa f.At+zbI r:=by cases f; rw [zbI]
theorem zfQ (t:Term) (r:yB):zN (t::r)=1+t.Fs.length+zbI t.Fs+zN r:=by cases t; rw [zN]
theorem zeK (a:yB) (r:yA):ze5 (a::r)=zN a+ze5 r:=by rw [ze5]
theorem zic (w:Wd) (r:yD):zc6 (w::r)=1+zN w.Ann+zc6 r:=by cases w; rw [zc6]
theorem zgL:ze5 []=0:=by rw [ze5]
theorem zfG:zc6 []=0:=by rw [zc6]
theorem ziD:zbI []=0:=by rw [zbI]
theorem zwf:zN []=0:=by rw [zN]
theorem z2r (l:yA):∀ n:Nat,l.foldl (λs t=>s+zN t) n=n+ze5 l:=by
 induction l with
 | nil=>intro n; rw [zgL]; rfl
 | cons a r ih=>intro n; rw [List.foldl_cons,ih,zeK]; omega
theorem zY6 (l:yD):∀ n:Nat,l.foldl (λs t=>s+1+zN t.Ann) n=n+zc6 l:=by
 induction l with
 | nil=>intro n; rw [zfG]; rfl
 | cons a r ih=>intro n; rw [List.foldl_cons,ih,zic]; omega
theorem z6H (l:yC):∀ n:Nat,l.foldl (λs t=>s+zfa t.At) n=n+zbI l:=by
 induction l with
 | nil=>intro n; rw [ziD]; rfl
 | cons a r ih=>intro n; rw [List.foldl_cons,ih,zc2]; omega
theorem z43 (l:yB):∀ n:Nat,l.foldl (λs t=>s+1+t.Fs.length+zbI t.Fs) n=n+zN l:=by
 induction l with
 | nil=>intro n; rw [zwf]; rfl
 | cons a r ih=>intro n; rw [List.foldl_cons,ih,zfQ]; omega
theorem zmk {n m:Nat} (h:n+m<=4611686018427387904):IntKind.i64.wrap ((n:Int)+(m:Int))=((n+m:Nat):Int):=by
 rw [zXO (by omega) (by omega)]; omega
theorem zgG {i:Nat} (h:i<4611686018427387904):IntKind.i64.wrap ((i:Int)+1)=((i+1:Nat):Int):=zw h
section
variable (g:yB->Bool×Int)
theorem zbfl (l:yA) (hl:l.length<=1000000) (hg:∀ y∈l,g y=(true,(zN y:Int))) (t12:yB) (t13 t14:Int) (t25:yC) (t26 t27:Int) (f:Fc) (fuel n:Nat) (hf:l.length<fuel) (hn:n+ze5 l<=4611686018427387904):
  zBX g fuel n t12 t13 t14 t25 t26 t27 l l.length 0 f=(true,(((n+ze5 l:Nat):Int),t12,t13,t14,t25,t26,t27,f)):=by
 have h:=zcy (W:=zuw g) (z:=default) (l:=l) (λi (n:Nat)=>((n:Int),(),t12,t13,t14,t25,t26,t27,l,(l.length:Int),(i:Int),())) (λ_ _=>(f,())) (λy n=>.inl (n+zN y)) (λn=>((n:Int),t12,t13,t14,t25,t26,t27,f)) (λi n=>n+ze5 (l.drop i)<=4611686018427387904)
  (λi n hi hI=>.inl ⟨_,rfl,by rw [zbg hi,zeK] at hI; omega,λH K D=>by
   rw [zbg hi,zeK] at hI;show (zj5 g n t12 t13 t14 t25 t26 t27 l l.length i f).ev H K D=_;unfold zj5;simp only [Wy.ev_i,Wy.ev_k,Wy.ev_h,Wy.ev_bn,Wy.ev_d,tT,hi,hg _ (zn hi)];rw [zmk (by omega),zgG (by omega)]⟩)
  (λn hI H K D=>by
   show (zj5 g n t12 t13 t14 t25 t26 t27 l l.length l.length f).ev H K D=_;unfold zj5;simp only [Wy.ev_i,Wy.ev_k,tT,Nat.lt_irrefl]) fuel 0 n (by omega) (Nat.zero_le _) (by simpa using hn)
 rw [List.drop_zero,zcz,z2r] at h;exact h
theorem zbfc (l:yD) (hl:l.length<=1000000) (hg:∀ y∈l,g y.Ann=(true,(zN y.Ann:Int))) (t12:yB) (t13 t14:Int) (t25:yC) (t26 t27:Int) (fuel n:Nat) (hf:l.length<fuel) (hn:n+zc6 l<=4611686018427387904):
  zB5 g fuel n t12 t13 t14 t25 t26 t27 l l.length 0=(true,(((n+zc6 l:Nat):Int),t12,t13,t14,t25,t26,t27)):=by
 have h:=zcy (W:=zuz g) (z:=default) (l:=l) (λi (n:Nat)=>((n:Int),t12,t13,t14,t25,t26,t27,l,(l.length:Int),(i:Int),())) (λ_ _=>()) (λy n=>.inl (n+1+zN y.Ann)) (λn=>((n:Int),t12,t13,t14,t25,t26,t27)) (λi n=>n+zc6 (l.drop i)<=4611686018427387904)
  (λi n hi hI=>.inl ⟨_,rfl,by rw [zbg hi,zic] at hI; omega,λH K D=>by
   rw [zbg hi,zic] at hI;show (zj8 g n t12 t13 t14 t25 t26 t27 l l.length i).ev H K D=_;unfold zj8;simp only [Wy.ev_i,Wy.ev_k,Wy.ev_h,Wy.ev_bn,Wy.ev_d,tT,hi,hg _ (zn hi)];rw [zgG (by omega),show (1:Int)=((1:Nat):Int) from rfl,zmk (by omega),zmk (by omega), <- Nat.add_assoc]⟩)
  (λn hI H K D=>by
   show (zj8 g n t12 t13 t14 t25 t26 t27 l l.length l.length).ev H K D=_;unfold zj8;simp only [Wy.ev_i,Wy.ev_k,tT,Nat.lt_irrefl]) fuel 0 n (by omega) (Nat.zero_le _) (by simpa using hn)
 rw [List.drop_zero,zcz,zY6] at h;exact h
theorem zbgI (l:yC) (hl:l.length<=1000000) (hg:∀ f∈l,(f.At.Ag.length<=1000000/\f.At.Items.length<=1000000)/\(∀ y∈f.At.Ag,g y=(true,(zN y:Int)))/\∀ y∈f.At.Items,g y.Ann=(true,(zN y.Ann:Int))) (t12:yB) (t13 t14:Int) (fuel n:Nat) (hf:l.length<fuel) (hn:n+zbI l<=4611686018427387904):
  zD6 g fuel n t12 t13 t14 l l.length 0=(true,(((n+zbI l:Nat):Int),t12,t13,t14)):=by
 have h:=zcy (W:=zv6 g) (z:=default) (l:=l) (λi (n:Nat)=>((n:Int),t12,t13,t14,l,(l.length:Int),(i:Int),())) (λ_ _=>()) (λy n=>.inl (n+zfa y.At)) (λn=>((n:Int),t12,t13,t14)) (λi n=>n+zbI (l.drop i)<=4611686018427387904)
  (λi n hi hI=>.inl ⟨_,rfl,by rw [zbg hi,zc2] at hI; omega,λH K D=>by
   rw [zbg hi,zc2,zhb] at hI;obtain ⟨⟨h1,h2⟩,h3,h4⟩:=hg _ (zn hi);show (zlp g n t12 t13 t14 l l.length i).ev H K D=_;unfold zlp;simp only [Wy.ev_i,Wy.ev_k,Wy.ev_h,Wy.ev_bn,Wy.ev_d,tT,hi,At.eta];rw [zbfl g _ h1 h3 _ _ _ _ _ _ _ _ _ (by omega) (by omega)]
   simp only [cond_true,Int.toNat_natCast];rw [zbfc g _ h2 h4 _ _ _ _ _ _ _ _ (by omega) (by omega)]
   simp only [cond_true];rw [zgG (by omega),zhb,Nat.add_assoc]⟩)
  (λn hI H K D=>by
   show (zlp g n t12 t13 t14 l l.length l.length).ev H K D=_;unfold zlp;simp only [Wy.ev_i,Wy.ev_k,tT,Nat.lt_irrefl]) fuel 0 n (by omega) (Nat.zero_le _) (by simpa using hn)
 rw [List.drop_zero,zcz,z6H] at h;exact h
theorem zbgG (l:yB) (hl:l.length<=1000000) (hg:∀ t∈l,t.Fs.length<=1000000/\∀ f∈t.Fs,(f.At.Ag.length<=1000000/\f.At.Items.length<=1000000)/\(∀ y∈f.At.Ag,g y=(true,(zN y:Int)))/\∀ y∈f.At.Items,g y.Ann=(true,(zN y.Ann:Int))) (fuel n:Nat) (hf:l.length<fuel) (hn:n+zN l<=4611686018427387904):
  zDR g fuel n l l.length 0=(true,((n+zN l:Nat):Int)):=by
 have h:=zcy (W:=zvJ g) (z:=default) (l:=l) (λi (n:Nat)=>((n:Int),l,(l.length:Int),(i:Int),())) (λ_ _=>()) (λy n=>.inl (n+1+y.Fs.length+zbI y.Fs)) (λn=>(n:Int)) (λi n=>n+zN (l.drop i)<=4611686018427387904)
  (λi n hi hI=>.inl ⟨_,rfl,by rw [zbg hi,zfQ] at hI; omega,λH K D=>by
   rw [zbg hi,zfQ] at hI;obtain ⟨h1,h3⟩:=hg _ (zn hi);show (zkL g n l l.length i).ev H K D=_;unfold zkL;simp only [Wy.ev_i,Wy.ev_k,Wy.ev_h,Wy.ev_bn,Wy.ev_d,tT,hi,At.eta];rw [show (1:Int)=((1:Nat):Int) from rfl,zmk (n:=1) (by omega),zmk (by omega)]
   rw [zbgI g _ h1 h3 _ _ _ _ _ (by omega) (by omega)]
   simp only [cond_true];rw [show ((1:Nat):Int)=(1:Int) from rfl,zgG (by omega),Nat.add_assoc n 1]⟩)
  (λn hI H K D=>by
   show (zkL g n l l.length l.length).ev H K D=_;unfold zkL;simp only [Wy.ev_i,Wy.ev_k,tT,Nat.lt_irrefl]) fuel 0 n (by omega) (Nat.zero_le _) (by simpa using hn)
 rw [List.drop_zero,zcz,z43] at h;exact h
theorem zbet (x:At) (hl:x.Ag.length<=1000000) (hg:∀ y∈x.Ag,g y=(true,(zN y:Int))) (a:yB) (i k:Int) (fuel n:Nat) (hf:x.Ag.length<fuel) (hn:n+ze5 x.Ag<=4611686018427387904):
  zKS g fuel a n i k 0 x=(true,(a,((n+ze5 x.Ag:Nat):Int),i,k,x)):=by
 have h:=zcy (W:=zBj g) (z:=default) (l:=x.Ag) (λj (n:Nat)=>(a,(n:Int),i,k,(),(j:Int),())) (λ_ _=>(x,())) (λy n=>.inl (n+zN y)) (λn=>(a,(n:Int),i,k,x)) (λi n=>n+ze5 (x.Ag.drop i)<=4611686018427387904)
  (λj n hi hI=>.inl ⟨_,rfl,by rw [zbg hi,zeK] at hI; omega,λH K D=>by
   rw [zbg hi,zeK] at hI;show (zre g a n i k j x).ev H K D=_;unfold zre;simp only [Wy.ev_i,Wy.ev_k,Wy.ev_h,Wy.ev_bn,Wy.ev_d,tT,hi,hg _ (zn hi)];rw [zmk (by omega),zgG (by omega)]⟩)
  (λn hI H K D=>by
   show (zre g a n i k x.Ag.length x).ev H K D=_;unfold zre;simp only [Wy.ev_i,Wy.ev_k,tT,Nat.lt_irrefl]) fuel 0 n (by omega) (Nat.zero_le _) (by simpa using hn)
 rw [List.drop_zero,zcz,z2r] at h;exact h
theorem zbeD (x:At) (hl:x.Items.length<=1000000) (hg:∀ y∈x.Items,g y.Ann=(true,(zN y.Ann:Int))) (a:yB) (i k:Int) (fuel n:Nat) (hf:x.Items.length<fuel) (hn:n+zc6 x.Items<=4611686018427387904):
  zLw g fuel a n i k 0 x=(true,(a,((n+zc6 x.Items:Nat):Int),i,k)):=by
 have h:=zcy (W:=zBx g) (z:=default) (l:=x.Items) (λj (n:Nat)=>(a,(n:Int),i,k,(),(j:Int),())) (λ_ _=>(x,())) (λy n=>.inl (n+1+zN y.Ann)) (λn=>(a,(n:Int),i,k)) (λi n=>n+zc6 (x.Items.drop i)<=4611686018427387904)
  (λj n hi hI=>.inl ⟨_,rfl,by rw [zbg hi,zic] at hI; omega,λH K D=>by
   rw [zbg hi,zic] at hI;show (zqL g a n i k j x).ev H K D=_;unfold zqL;simp only [Wy.ev_i,Wy.ev_k,Wy.ev_h,Wy.ev_bn,Wy.ev_d,tT,hi,hg _ (zn hi)];rw [zgG (i:=j) (by omega),zgG (i:=n) (by omega),zmk (by omega)]⟩)
  (λn hI H K D=>by
   show (zqL g a n i k x.Items.length x).ev H K D=_;unfold zqL;simp only [Wy.ev_i,Wy.ev_k,tT,Nat.lt_irrefl]) fuel 0 n (by omega) (Nat.zero_le _) (by simpa using hn)
 rw [List.drop_zero,zcz,zY6] at h;exact h
theorem zKo:∀ (a:yB) (i:Nat),i<a.length->(a.getD i default).Fs.length<=zd5 a
 | [],i,h=>by simp at h
 | t::r,0,h=>by
  have:∀ l:yC,l.length<=z7M l:=λl=>by
   induction l with
   | nil=>exact Nat.le_refl _
   | cons f r ih=>simp only [z7M,qf]; omega
  have:=this t.Fs;simp only [zd5,List.getD_cons_zero]; omega
 | t::r,i+1,h=>by
  have:=zKo r i (by simpa using h)
  simp only [zd5,List.getD_cons_succ]; omega
theorem foldl_factors' (l:yC):∀ n:Nat,l.foldl (λs t=>s+1+zfa t.At) n=n+l.length+zbI l:=by
 induction l with
 | nil=>intro n; rw [ziD]; rfl
 | cons a r ih=>intro n; rw [List.foldl_cons,ih,zc2,qf]; omega
theorem zbfx (a:yB) (i:Nat) (hi:i<a.length) (hla:a.length<=1000000) (l:yC) (el:(a.getD i default).Fs=l) (hl:l.length<=1000000) (hg:∀ f∈l,(f.At.Ag.length<=1000000/\f.At.Items.length<=1000000)/\(∀ y∈f.At.Ag,g y=(true,(zN y:Int)))/\∀ y∈f.At.Items,g y.Ann=(true,(zN y.Ann:Int))) (fuel n:Nat) (hf:l.length<fuel) (hn:n+l.length+zbI l<=4611686018427387904):
  zM7 g fuel a n i 0=(true,(a,((n+l.length+zbI l:Nat):Int),(i:Int))):=by
 have h:=zcy (W:=zC8 g) (z:=default) (l:=l) (λk (n:Nat)=>(a,(n:Int),(i:Int),(k:Int),())) (λ_ _=>()) (λy n=>.inl (n+1+zfa y.At)) (λn=>(a,(n:Int),(i:Int))) (λk n=>n+(l.drop k).length+zbI (l.drop k)<=4611686018427387904)
  (λk n hk hI=>.inl ⟨_,rfl,by rw [zbg hk,zc2,qf] at hI; omega,λH K D=>by
   rw [zbg hk,zc2,zhb,qf] at hI;obtain ⟨⟨h1,h2⟩,h3,h4⟩:=hg _ (zn hk);show (zs1 g a n i k).ev H K D=_;unfold zs1;simp only [Wy.ev_i,Wy.ev_k,Wy.ev_h,Wy.ev_bn,Wy.ev_d,tT,hi,el,hk,At.eta];rw [zgG (i:=n) (by omega)]
   rw [zbet g _ h1 h3 _ _ _ _ _ (by omega) (by omega)]
   simp only [cond_true,Int.toNat_natCast,At.eta];rw [zbeD g _ h2 h4 _ _ _ _ _ (by omega) (by omega)]
   simp only [cond_true];rw [zgG (by omega),zhb,Nat.add_assoc (n+1)]⟩)
  (λn hI H K D=>by
   show (zs1 g a n i l.length).ev H K D=_;unfold zs1;simp only [Wy.ev_i,Wy.ev_k,tT,hi,el,Nat.lt_irrefl]) fuel 0 n (by omega) (Nat.zero_le _) (by simpa using hn)
 rw [List.drop_zero,zcz,foldl_factors'] at h;exact h
theorem zbeV (l:yB) (hl:l.length<=1000000) (hg:∀ t∈l,t.Fs.length<=1000000/\∀ f∈t.Fs,(f.At.Ag.length<=1000000/\f.At.Items.length<=1000000)/\(∀ y∈f.At.Ag,g y=(true,(zN y:Int)))/\∀ y∈f.At.Items,g y.Ann=(true,(zN y.Ann:Int))) (fuel n:Nat) (hf:l.length<fuel) (hn:n+zN l<=4611686018427387904):
  zMO g fuel l n 0=(true,((n+zN l:Nat):Int)):=by
 have h:=zcy (W:=zC7 g) (z:=default) (l:=l) (λi (n:Nat)=>(l,(n:Int),(i:Int),())) (λ_ _=>()) (λy n=>.inl (n+1+y.Fs.length+zbI y.Fs)) (λn=>(n:Int)) (λi n=>n+zN (l.drop i)<=4611686018427387904)
  (λi n hi hI=>.inl ⟨_,rfl,by rw [zbg hi,zfQ] at hI; omega,λH K D=>by
   rw [zbg hi,zfQ] at hI;obtain ⟨h1,h3⟩:=hg _ (zn hi);have hz:=zKo l i hi;show (zth g l n i).ev H K D=_;unfold zth;simp only [Wy.ev_i,Wy.ev_k,Wy.ev_h,Wy.ev_bn,Wy.ev_d,tT,hi,At.eta];rw [zgG (i:=n) (by omega)]
   rw [zbfx g l i hi hl _ rfl h1 h3 _ _ (by omega) (by omega)]
   simp only [cond_true];rw [zgG (by omega)]⟩)
  (λn hI H K D=>by
   show (zth g l n l.length).ev H K D=_;unfold zth;simp only [Wy.ev_i,Wy.ev_k,tT,Nat.lt_irrefl]) fuel 0 n (by omega) (Nat.zero_le _) (by simpa using hn)
 rw [List.drop_zero,zcz,z43] at h;exact h
end
theorem z96 {l:yA} {y:yB} (h:y∈l):zN y<=ze5 l:=by
 induction l with
 | nil=>cases h
 | cons a r ih=>
  rw [zeK];rcases qd.1 h with rfl | h
  ·omega
  ·have:=ih h; omega
theorem z9v {l:yD} {y:Wd} (h:y∈l):zN y.Ann<=zc6 l:=by
 induction l with
 | nil=>cases h
 | cons a r ih=>
  rw [zic];rcases qd.1 h with rfl | h
  ·omega
  ·have:=ih h; omega
theorem zP6 {l:yC} {y:Fc} (h:y∈l):zfa y.At<=zbI l:=by
 induction l with
 | nil=>cases h
 | cons a r ih=>
  rw [zc2];rcases qd.1 h with rfl | h
  ·omega
  ·have:=ih h; omega
theorem zbbK {l:yB} {y:Term} (h:y∈l):zbI y.Fs<=zN l:=by
 induction l with
 | nil=>cases h
 | cons a r ih=>
  rw [zfQ];rcases qd.1 h with rfl | h
  ·omega
  ·have:=ih h; omega
theorem z30 {a:yB} {t:Term} {f:Fc} (ht:t∈a) (hf:f∈t.Fs):ze5 f.At.Ag+zc6 f.At.Items<=zN a:=by
 have h1:=zbbK ht; have h2:=zP6 hf; rw [zhb] at h2; omega
theorem zNQ {d:Nat} {a:yB} (h:zp (d+1) a) {t:Term} (ht:t∈a):t.Fs.length<=1000000/\∀ f∈t.Fs,(f.At.Ag.length<=1000000/\f.At.Items.length<=1000000)/\(∀ y∈f.At.Ag,zp d y)/\∀ y∈f.At.Items,zp d y.Ann:=
 ⟨(h.2 t ht).1,λf hf=>have q:=(h.2 t ht).2 f hf; ⟨⟨q.1.1,q.1.2.1⟩,q.2.1,λy hy=>(q.2.2 y hy).2⟩⟩
theorem z0m:∀ (n d:Nat) (a:yB),zp d a->d<=n->zN a<=4611686018427387904->zlv n a=(true,(zN a:Int))/\zuv n a=(true,(zN a:Int))
 | n,0,a,h,hd,hs=>h.elim
 | 0,d+1,a,h,hd,hs=>by omega
 | n+1,d+1,a,h,hd,hs=>by
  have hg:=λy (hy:zp d y) (hs:zN y<=4611686018427387904)=>z0m n d y hy (by omega) hs
  have hsub:∀ t∈a,t.Fs.length<=1000000/\∀ f∈t.Fs,(f.At.Ag.length<=1000000/\f.At.Items.length<=1000000)/\(∀ y∈f.At.Ag,zp d y/\zN y<=4611686018427387904)/\∀ y∈f.At.Items,zp d y.Ann/\zN y.Ann<=4611686018427387904:=λt ht=>by
   obtain ⟨h1,h2⟩:=zNQ h ht;refine ⟨h1,λf hf=> ?_⟩
   obtain ⟨h3,h4,h5⟩:=h2 f hf;have h6:=z30 ht hf;exact ⟨h3,λy hy=>⟨h4 y hy,by have:=z96 hy; omega⟩,λy hy=>⟨h5 y hy,by have:=z9v hy; omega⟩⟩
  constructor
  ·rw [zSy];unfold zt5 zEH
   have h1:=zbgG (zlv n) a h.1 (λt ht=>⟨(hsub t ht).1,λf hf=>⟨((hsub t ht).2 f hf).1,λy hy=>(hg y (((hsub t ht).2 f hf).2.1 y hy).1 (((hsub t ht).2 f hf).2.1 y hy).2).1,λy hy=>(hg _ (((hsub t ht).2 f hf).2.2 y hy).1 (((hsub t ht).2 f hf).2.2 y hy).2).1⟩⟩)
    (Int.toNat 0+a.length+(Int.ofNat a.length).toNat +Int.toNat 0+1) 0 (by omega) (by omega)
   rw [show ((0:Nat):Int)=(0:Int) from rfl,Nat.zero_add] at h1
   rw [Wy.fin_bn,show Int.ofNat a.length=(a.length:Int) from rfl] at *
   rw [h1]; rfl
  ·rw [z18];unfold zDb zOY
   have h1:=zbeV (zuv n) a h.1 (λt ht=>⟨(hsub t ht).1,λf hf=>⟨((hsub t ht).2 f hf).1,λy hy=>(hg y (((hsub t ht).2 f hf).2.1 y hy).1 (((hsub t ht).2 f hf).2.1 y hy).2).2,λy hy=>(hg _ (((hsub t ht).2 f hf).2.2 y hy).1 (((hsub t ht).2 f hf).2.2 y hy).2).2⟩⟩)
    (a.length+Int.toNat 0+Int.toNat 0+1+zd5 a) 0 (by omega) (by omega)
   rw [show ((0:Nat):Int)=(0:Int) from rfl,Nat.zero_add] at h1
   rw [Wy.fin_bn,h1]; rfl
mutual
def znZ:At->Nat
 | ⟨k,_,a,_,i,_,_⟩=>if k=0 then 0 else 1+max (zmi a) (zkH i)
def zdd:yC->Nat
 | []=>0
 | ⟨x,_⟩::r=>max (znZ x) (zdd r)
def zbo:yB->Nat
 | []=>0
 | ⟨_,fs⟩::r=>max (zdd fs) (zbo r)
def zmi:yA->Nat
 | []=>0
 | a::r=>max (zbo a) (zmi r)
def zkH:yD->Nat
 | []=>0
 | ⟨_,a⟩::r=>max (zbo a) (zkH r)
end
theorem zC3 (x:At):znZ x=if x.Kind=0 then 0 else 1+max (zmi x.Ag) (zkH x.Items):=by cases x; rw [znZ]
theorem zja (f:Fc) (r:yC):zdd (f::r)=max (znZ f.At) (zdd r):=by cases f; rw [zdd]
theorem zxk (t:Term) (r:yB):zbo (t::r)=max (zdd t.Fs) (zbo r):=by cases t; rw [zbo]
theorem zCY (a:yB) (r:yA):zmi (a::r)=max (zbo a) (zmi r):=by rw [zmi]
theorem zBa (w:Wd) (r:yD):zkH (w::r)=max (zbo w.Ann) (zkH r):=by cases w; rw [zkH]
theorem zNR:zmi []=0:=by rw [zmi]
theorem zLE:zkH []=0:=by rw [zkH]
theorem zqh:zdd []=0:=by rw [zdd]
theorem zI7:zbo []=0:=by rw [zbo]
theorem zbbu (l:yA):∀ n:Nat,l.foldl (λs t=>max s (zbo t)) n=max n (zmi l):=by
 induction l with
 | nil=>intro n; rw [zNR]; exact (Nat.max_zero n).symm
 | cons a r ih=>intro n; rw [List.foldl_cons,ih,zCY]; omega
theorem z9E (l:yD):∀ n:Nat,l.foldl (λs t=>max s (zbo t.Ann)) n=max n (zkH l):=by
 induction l with
 | nil=>intro n; rw [zLE]; exact (Nat.max_zero n).symm
 | cons a r ih=>intro n; rw [List.foldl_cons,ih,zBa]; omega
theorem z9V (l:yA):∀ n:Nat,l.foldl (λs t=>max s (1+zbo t)) (1+n)=1+max n (zmi l):=by
 induction l with
 | nil=>intro n; rw [zNR]; simp
 | cons a r ih=>intro n; rw [List.foldl_cons,show max (1+n) (1+zbo a)=1+max n (zbo a) by omega,ih,zCY]; omega
theorem z8u (l:yD):∀ n:Nat,l.foldl (λs t=>max s (1+zbo t.Ann)) (1+n)=1+max n (zkH l):=by
 induction l with
 | nil=>intro n; rw [zLE]; simp
 | cons a r ih=>intro n; rw [List.foldl_cons,show max (1+n) (1+zbo a.Ann)=1+max n (zbo a.Ann) by omega,ih,zBa]; omega
theorem zSN (l:yC):∀ n:Nat,l.foldl (λs t=>max s (znZ t.At)) n=max n (zdd l):=by
 induction l with
 | nil=>intro n; rw [zqh]; exact (Nat.max_zero n).symm
 | cons a r ih=>intro n; rw [List.foldl_cons,ih,zja]; omega
theorem z5K (l:yB):∀ n:Nat,l.foldl (λs t=>max s (zdd t.Fs)) n=max n (zbo l):=by
 induction l with
 | nil=>intro n; rw [zI7]; exact (Nat.max_zero n).symm
 | cons a r ih=>intro n; rw [List.foldl_cons,ih,zxk]; omega
theorem zXF (a b:Nat):(if (a:Int)>(b:Int) then (a:Int) else (b:Int))=((max b a:Nat):Int):=by split <;>omega
theorem z3g {d:Nat}:∀ l:yA,(∀ y∈l,zbo y<=d)->zmi l<=d:=λl=>by
 induction l with
 | nil=>intro _; rw [zNR]; omega
 | cons y r ih=>intro hy; rw [zCY]; have h1:=hy y (by simp); have h2:=ih λz hz=>hy z (by simp [hz]); omega
theorem zY3 {d:Nat}:∀ l:yD,(∀ y∈l,zbo y.Ann<=d)->zkH l<=d:=λl=>by
 induction l with
 | nil=>intro _; rw [zLE]; omega
 | cons y r ih=>intro hy; rw [zBa]; have h1:=hy y (by simp); have h2:=ih λz hz=>hy z (by simp [hz]); omega
theorem z6s {d:Nat}:∀ l:yC,(∀ y∈l,znZ y.At<=d)->zdd l<=d:=λl=>by
 induction l with
 | nil=>intro _; rw [zqh]; omega
 | cons y r ih=>intro hy; rw [zja]; have h1:=hy y (by simp); have h2:=ih λz hz=>hy z (by simp [hz]); omega
theorem zbcY {d:Nat}:∀ l:yB,(∀ y∈l,zdd y.Fs<=d)->zbo l<=d:=λl=>by
 induction l with
 | nil=>intro _; rw [zI7]; omega
 | cons y r ih=>intro hy; rw [zxk]; have h1:=hy y (by simp); have h2:=ih λz hz=>hy z (by simp [hz]); omega
theorem zSw:∀ (d:Nat) (a:yB),zp d a->zbo a<=d
 | 0,a,h=>h.elim
 | d+1,a,h=>zbcY a λt ht=>z6s _ λf hf=>by
  obtain ⟨_,h2⟩:=zNQ h ht;obtain ⟨_,h4,h5⟩:=h2 f hf;have q1:=z3g f.At.Ag λy hy=>zSw d y (h4 y hy)
  have q2:=zY3 f.At.Items λy hy=>zSw d y.Ann (h5 y hy)
  rw [zC3]; split <;>omega
section
variable (g:yB->Bool×Int)
theorem zbg5 (l:yA) (hl:l.length<=1000000) (hg:∀ y∈l,g y=(true,(zbo y:Int))) (nn:Int) (t13:yB) (t14 t15:Int) (t20:yC) (t21 t22:Int) (f:Fc) (fuel n:Nat) (hf:l.length<fuel):
  zyW g fuel nn n t13 t14 t15 t20 t21 t22 l l.length 0 f=(true,(nn,((max n (zmi l):Nat):Int),t13,t14,t15,t20,t21,t22,f)):=by
 have h:=zcy (W:=zqY g) (z:=default) (l:=l) (λi (n:Nat)=>(nn,(),(n:Int),t13,t14,t15,t20,t21,t22,l,(l.length:Int),(i:Int),())) (λ_ _=>(f,())) (λy n=>.inl (max n (zbo y))) (λn=>(nn,(n:Int),t13,t14,t15,t20,t21,t22,f)) (λi n=>True)
  (λi n hi hI=>.inl ⟨_,rfl,trivial,λH K D=>by
   show (zh6 g nn n t13 t14 t15 t20 t21 t22 l l.length i f).ev H K D=_;unfold zh6;simp only [Wy.ev_i,Wy.ev_k,Wy.ev_h,Wy.ev_bn,Wy.ev_d,tT,hi,hg _ (zn hi),zXF];rw [zgG (by omega)]⟩)
  (λn hI H K D=>by
   show (zh6 g nn n t13 t14 t15 t20 t21 t22 l l.length l.length f).ev H K D=_;unfold zh6;simp only [Wy.ev_i,Wy.ev_k,tT,Nat.lt_irrefl]) fuel 0 n (by omega) (Nat.zero_le _) trivial
 rw [List.drop_zero,zcz,zbbu] at h;exact h
theorem zbgu (l:yD) (hl:l.length<=1000000) (hg:∀ y∈l,g y.Ann=(true,(zbo y.Ann:Int))) (nn:Int) (t13:yB) (t14 t15:Int) (t20:yC) (t21 t22:Int) (fuel n:Nat) (hf:l.length<fuel):
  zyB g fuel nn n t13 t14 t15 t20 t21 t22 l l.length 0=(true,(nn,((max n (zkH l):Nat):Int),t13,t14,t15,t20,t21,t22)):=by
 have h:=zcy (W:=zqE g) (z:=default) (l:=l) (λi (n:Nat)=>(nn,(n:Int),t13,t14,t15,t20,t21,t22,l,(l.length:Int),(i:Int),())) (λ_ _=>()) (λy n=>.inl (max n (zbo y.Ann))) (λn=>(nn,(n:Int),t13,t14,t15,t20,t21,t22)) (λi n=>True)
  (λi n hi hI=>.inl ⟨_,rfl,trivial,λH K D=>by
   show (zhX g nn n t13 t14 t15 t20 t21 t22 l l.length i).ev H K D=_;unfold zhX;simp only [Wy.ev_i,Wy.ev_k,Wy.ev_h,Wy.ev_bn,Wy.ev_d,tT,hi,hg _ (zn hi),zXF];rw [zgG (by omega)]⟩)
  (λn hI H K D=>by
   show (zhX g nn n t13 t14 t15 t20 t21 t22 l l.length l.length).ev H K D=_;unfold zhX;simp only [Wy.ev_i,Wy.ev_k,tT,Nat.lt_irrefl]) fuel 0 n (by omega) (Nat.zero_le _) trivial
 rw [List.drop_zero,zcz,z9E] at h;exact h
def zRF (x:At):Prop:=(x.Ag.length<=1000000/\x.Items.length<=1000000)/\(znZ x<=1000/\(∀ y∈x.Ag,zbo y<=1000)/\∀ y∈x.Items,zbo y.Ann<=1000)/\(∀ y∈x.Ag,g y=(true,(zbo y:Int)))/\∀ y∈x.Items,g y.Ann=(true,(zbo y.Ann:Int))
theorem zbij (l:yC) (hl:l.length<=1000000) (hg:∀ f∈l,zRF g f.At) (t13:yB) (t14 t15:Int) (fuel n:Nat) (hf:l.length<fuel):
  zzX g fuel n t13 t14 t15 l l.length 0=(true,(((max n (zdd l):Nat):Int),t13,t14,t15)):=by
 have h:=zcy (W:=zr7 g) (z:=default) (l:=l) (λi (n:Nat)=>((n:Int),t13,t14,t15,l,(l.length:Int),(i:Int),())) (λ_ _=>()) (λy n=>.inl (max n (znZ y.At))) (λn=>((n:Int),t13,t14,t15)) (λi n=>True)
  (λi n hi hI=>.inl ⟨_,rfl,trivial,λH K D=>by
   obtain ⟨⟨h1,h2⟩,⟨h5,_,_⟩,h3,h4⟩:=hg _ (zn hi);show (ziH g n t13 t14 t15 l l.length i).ev H K D=_;unfold ziH;simp only [Wy.ev_i,Wy.ev_k,Wy.ev_h,Wy.ev_bn,Wy.ev_d,tT,hi,At.eta];generalize l.getD i default=f at *;rw [zC3] at h5 ⊢;by_cases hk:f.At.Kind=0
   ·have e:(f.At.Kind==0)=true:=by simp [hk]
    simp only [e,cond_true];rw [if_pos hk,Nat.max_zero,zgG (by omega)]
   ·have e:(f.At.Kind==0)=false:=by simp [hk]
    simp only [e,cond_false];rw [if_neg hk] at h5 ⊢;have q:=λfuel hf=>zbg5 g _ h1 h3 n t13 t14 t15 l l.length i f fuel 0 hf
    rw [Nat.zero_max,show ((0:Nat):Int)=(0:Int) from rfl] at q
    rw [q _ (by omega)]
    simp only [cond_true,Int.toNat_natCast];rw [zbgu g _ h2 h4 n t13 t14 t15 l l.length i _ _ (by omega)]
    simp only [cond_true];rw [zgG (by omega),show (1:Int)=((1:Nat):Int) from rfl,zmk (n:=1) (by omega),zXF]⟩)
  (λn hI H K D=>by
   show (ziH g n t13 t14 t15 l l.length l.length).ev H K D=_;unfold ziH;simp only [Wy.ev_i,Wy.ev_k,tT,Nat.lt_irrefl]) fuel 0 n (by omega) (Nat.zero_le _) trivial
 rw [List.drop_zero,zcz,zSN] at h;exact h
theorem zbhI (l:yB) (hl:l.length<=1000000) (hg:∀ t∈l,t.Fs.length<=1000000/\∀ f∈t.Fs,zRF g f.At) (fuel n:Nat) (hf:l.length<fuel):
  zzF g fuel n l l.length 0=(true,((max n (zbo l):Nat):Int)):=by
 have h:=zcy (W:=zsi g) (z:=default) (l:=l) (λi (n:Nat)=>((n:Int),l,(l.length:Int),(i:Int),())) (λ_ _=>()) (λy n=>.inl (max n (zdd y.Fs))) (λn=>(n:Int)) (λi n=>True)
  (λi n hi hI=>.inl ⟨_,rfl,trivial,λH K D=>by
   obtain ⟨h1,h3⟩:=hg _ (zn hi);show (ziQ g n l l.length i).ev H K D=_;unfold ziQ;simp only [Wy.ev_i,Wy.ev_k,Wy.ev_h,Wy.ev_bn,Wy.ev_d,tT,hi,At.eta];rw [zbij g _ h1 h3 _ _ _ _ _ (by omega)]
   simp only [cond_true];rw [zgG (by omega)]⟩)
  (λn hI H K D=>by
   show (ziQ g n l l.length l.length).ev H K D=_;unfold ziQ;simp only [Wy.ev_i,Wy.ev_k,tT,Nat.lt_irrefl]) fuel 0 n (by omega) (Nat.zero_le _) trivial
 rw [List.drop_zero,zcz,z5K] at h;exact h
theorem zbfA (x:At) (hx:zRF g x) (a:yB) (most i k:Int) (fuel n:Nat) (hf:x.Ag.length<fuel):
  zxz g fuel a most i k ((1+n:Nat):Int) 0 x=(true,(a,most,i,k,((1+max n (zmi x.Ag):Nat):Int),x)):=by
 obtain ⟨⟨h1,h2⟩,⟨h5,h6,h7⟩,h3,h4⟩:=hx
 have h:=zcy (W:=zxp g) (z:=default) (l:=x.Ag) (λj (n:Nat)=>(a,most,i,k,(),(n:Int),(j:Int),())) (λ_ _=>(x,())) (λy n=>.inl (max n (1+zbo y))) (λn=>(a,most,i,k,(n:Int),x)) (λi n=>True)
  (λj n hi hI=>.inl ⟨_,rfl,trivial,λH K D=>by
   have h8:=h6 _ (zn hi);show (zmh g a most i k n j x).ev H K D=_;unfold zmh;simp only [Wy.ev_i,Wy.ev_k,Wy.ev_h,Wy.ev_bn,Wy.ev_d,tT,hi,h3 _ (zn hi)];rw [zgG (by omega),show (1:Int)=((1:Nat):Int) from rfl,zmk (n:=1) (by omega),zXF]⟩)
  (λn hI H K D=>by
   show (zmh g a most i k n x.Ag.length x).ev H K D=_;unfold zmh;simp only [Wy.ev_i,Wy.ev_k,tT,Nat.lt_irrefl]) fuel 0 (1+n) (by omega) (Nat.zero_le _) trivial
 rw [List.drop_zero,zcz,z9V] at h;exact h
theorem zbfE (x:At) (hx:zRF g x) (a:yB) (most i k:Int) (fuel n:Nat) (hf:x.Items.length<fuel):
  zEP g fuel a most i k ((1+n:Nat):Int) 0 x=(true,(a,most,i,k,((1+max n (zkH x.Items):Nat):Int))):=by
 obtain ⟨⟨h1,h2⟩,⟨h5,h6,h7⟩,h3,h4⟩:=hx
 have h:=zcy (W:=zxI g) (z:=default) (l:=x.Items) (λj (n:Nat)=>(a,most,i,k,(),(n:Int),(j:Int),())) (λ_ _=>(x,())) (λy n=>.inl (max n (1+zbo y.Ann))) (λn=>(a,most,i,k,(n:Int))) (λi n=>True)
  (λj n hi hI=>.inl ⟨_,rfl,trivial,λH K D=>by
   have h8:=h7 _ (zn hi);show (zma g a most i k n j x).ev H K D=_;unfold zma;simp only [Wy.ev_i,Wy.ev_k,Wy.ev_h,Wy.ev_bn,Wy.ev_d,tT,hi,h4 _ (zn hi)];rw [zgG (by omega),show (1:Int)=((1:Nat):Int) from rfl,zmk (n:=1) (by omega),zXF]⟩)
  (λn hI H K D=>by
   show (zma g a most i k n x.Items.length x).ev H K D=_;unfold zma;simp only [Wy.ev_i,Wy.ev_k,tT,Nat.lt_irrefl]) fuel 0 (1+n) (by omega) (Nat.zero_le _) trivial
 rw [List.drop_zero,zcz,z8u] at h;exact h
theorem RNes_12' (x:At) (hx:zRF g x) (a:yB) (most i k:Int) (fuel:Nat) (hf:x.Ag.length<fuel):zxz g fuel a most i k 1 0 x=(true,(a,most,i,k,((1+zmi x.Ag:Nat):Int),x)):=by
 have h:=zbfA g x hx a most i k fuel 0 hf;rw [Nat.zero_max] at h; exact h
theorem zbhz (a:yB) (i:Nat) (hi:i<a.length) (hla:a.length<=1000000) (l:yC) (el:(a.getD i default).Fs=l) (hl:l.length<=1000000) (hg:∀ f∈l,zRF g f.At) (fuel n:Nat) (hf:l.length<fuel):
  zGU g fuel a n i 0=(true,(a,((max n (zdd l):Nat):Int),(i:Int))):=by
 have h:=zcy (W:=zyt g) (z:=default) (l:=l) (λk (n:Nat)=>(a,(n:Int),(i:Int),(k:Int),())) (λ_ _=>()) (λy n=>.inl (max n (znZ y.At))) (λn=>(a,(n:Int),(i:Int))) (λk n=>True)
  (λk n hk hI=>.inl ⟨_,rfl,trivial,λH K D=>by
   have hx:=hg _ (zn hk);have h5:=hx.2.1.1;show (znq g a n i k).ev H K D=_;unfold znq;simp only [Wy.ev_i,Wy.ev_k,Wy.ev_h,Wy.ev_bn,Wy.ev_d,tT,hi,el,hk,At.eta];generalize l.getD k default=f at *;rw [zC3] at h5 ⊢;by_cases hz:f.At.Kind=0
   ·have e:(f.At.Kind==0)=true:=by simp [hz]
    simp only [e,cond_true];rw [if_pos hz,Nat.max_zero,zgG (by omega)]
   ·have e:(f.At.Kind==0)=false:=by simp [hz]
    have hx1:=hx.1;simp only [e,cond_false];rw [if_neg hz] at h5 ⊢;rw [RNes_12' g _ hx _ _ _ _ _ (by omega)]
    simp only [cond_true,Int.toNat_natCast,At.eta];rw [zbfE g _ hx _ _ _ _ _ _ (by omega)]
    simp only [cond_true];rw [zgG (by omega),zXF]⟩)
  (λn hI H K D=>by
   show (znq g a n i l.length).ev H K D=_;unfold znq;simp only [Wy.ev_i,Wy.ev_k,tT,hi,el,Nat.lt_irrefl]) fuel 0 n (by omega) (Nat.zero_le _) trivial
 rw [List.drop_zero,zcz,zSN] at h;exact h
theorem zbgC (l:yB) (hl:l.length<=1000000) (hg:∀ t∈l,t.Fs.length<=1000000/\∀ f∈t.Fs,zRF g f.At) (fuel n:Nat) (hf:l.length<fuel):
  zGb g fuel l n 0=(true,((max n (zbo l):Nat):Int)):=by
 have h:=zcy (W:=zyJ g) (z:=default) (l:=l) (λi (n:Nat)=>(l,(n:Int),(i:Int),())) (λ_ _=>()) (λy n=>.inl (max n (zdd y.Fs))) (λn=>(n:Int)) (λi n=>True)
  (λi n hi hI=>.inl ⟨_,rfl,trivial,λH K D=>by
   obtain ⟨h1,h3⟩:=hg _ (zn hi);have hz:=zKo l i hi;show (zmX g l n i).ev H K D=_;unfold zmX;simp only [Wy.ev_i,Wy.ev_k,Wy.ev_h,Wy.ev_bn,Wy.ev_d,tT,hi,At.eta];rw [zbhz g l i hi hl _ rfl h1 h3 _ _ (by omega)]
   simp only [cond_true];rw [zgG (by omega)]⟩)
  (λn hI H K D=>by
   show (zmX g l n l.length).ev H K D=_;unfold zmX;simp only [Wy.ev_i,Wy.ev_k,tT,Nat.lt_irrefl]) fuel 0 n (by omega) (Nat.zero_le _) trivial
 rw [List.drop_zero,zcz,z5K] at h;exact h
end
theorem z4a:∀ (n d:Nat) (a:yB),zp d a->d<=n->d<=100->zga n a=(true,(zbo a:Int))/\zkS n a=(true,(zbo a:Int))
 | n,0,a,h,hd,hs=>h.elim
 | 0,d+1,a,h,hd,hs=>by omega
 | n+1,d+1,a,h,hd,hs=>by
  have hg:=λy (hy:zp d y)=>z4a n d y hy (by omega) (by omega)
  have hsub:∀ t∈a,t.Fs.length<=1000000/\∀ f∈t.Fs,zRF (zga n) f.At/\zRF (zkS n) f.At:=λt ht=>by
   obtain ⟨h1,h2⟩:=zNQ h ht;refine ⟨h1,λf hf=> ?_⟩
   obtain ⟨h3,h4,h5⟩:=h2 f hf;have q1:∀ y∈f.At.Ag,zbo y<=d:=λy hy=>zSw d y (h4 y hy)
   have q2:∀ y∈f.At.Items,zbo y.Ann<=d:=λy hy=>zSw d y.Ann (h5 y hy)
   have q3:znZ f.At<=1000:=by
    have r1:=z3g _ q1; have r2:=zY3 _ q2;rw [zC3]; split <;>omega
   have q4:znZ f.At<=1000/\(∀ y∈f.At.Ag,zbo y<=1000)/\∀ y∈f.At.Items,zbo y.Ann<=1000:=⟨q3,λy hy=>by have:=q1 y hy; omega,λy hy=>by have:=q2 y hy; omega⟩
   exact ⟨⟨h3,q4,λy hy=>(hg y (h4 y hy)).1,λy hy=>(hg _ (h5 y hy)).1⟩,⟨h3,q4,λy hy=>(hg y (h4 y hy)).2,λy hy=>(hg _ (h5 y hy)).2⟩⟩
  constructor
  ·rw [zMB];unfold zpT zAF;have h1:=zbhI (zga n) a h.1 (λt ht=>⟨(hsub t ht).1,λf hf=>((hsub t ht).2 f hf).1⟩) (Int.toNat 0+a.length+(Int.ofNat a.length).toNat +Int.toNat 0+1) 0 (by omega)
   rw [show ((0:Nat):Int)=(0:Int) from rfl,Nat.zero_max] at h1
   rw [Wy.fin_bn,show Int.ofNat a.length=(a.length:Int) from rfl] at *
   rw [h1]; rfl
  ·rw [zVJ];unfold zxV zIJ;have h1:=zbgC (zkS n) a h.1 (λt ht=>⟨(hsub t ht).1,λf hf=>((hsub t ht).2 f hf).2⟩) (a.length+Int.toNat 0+Int.toNat 0+1+zd5 a) 0 (by omega)
   rw [show ((0:Nat):Int)=(0:Int) from rfl,Nat.zero_max] at h1
   rw [Wy.fin_bn,h1]; rfl
end Go.Proofs.YtoknknbmfmddbaaGreatDoor
end
