/- Texts of this claim, joined (the program, its functions in plain words, and what they compute). -/
import Derived.Test.YtoknknbmfmddbaaGreatDoorGC4
set_option autoImplicit false
set_option linter.unusedVariables false
set_option linter.unusedSectionVars false
set_option linter.unusedSimpArgs false
set_option maxRecDepth 1000000
set_option maxHeartbeats 0
noncomputable section
namespace Go.Proofs.YtoknknbmfmddbaaGreatDoor
open Go Go.Ab
open Go.Proofs.Tryz
abbrev zl8:=Unit×Unit×yF×Int×Int×Unit
abbrev zl1:=Relation×(Unit×Unit×Unit)×Unit
abbrev zzF:=Int⊕Relation
abbrev zmj:=Unit×Unit×Unit×Int×Int×Unit
abbrev zl3:=(Unit×Unit×Unit)×(Unit×Unit×Unit)×yF×yH×yF×Unit
abbrev zzB:=Int⊕(yH×yF)
def zNv (t19:yF) (t20:Int) (t21:Int) (r:Relation):Wy zl8 zl1 zzF:=.i (decide (t21<t20)) (.i (decide (0<=t21)&&decide (t21<Int.ofNat t19.length)) (.bn (zqk r.Columns (t19.getD t21.toNat default).Values) λr5=>.i (!r5) (.k (.inl 7)) (.bn (zb7 (t19.getD t21.toNat default).Ann) λr4=>.i (!r4) (.k (.inl 1)) (.h ((),(),t19,t20,(IntKind.i64.wrap (t21+1)),()) (r,((),(),()),())))) .d) (.k (.inr r))
def zz6 (x:zl8) (y:zl1):=zNv x.2.2.1 x.2.2.2.1 x.2.2.2.2.1 y.1
def zMq (n:Nat) (t19:yF) (t20:Int) (t21:Int) (r:Relation):=zB (zz6) (.inl default) n ((),(),t19,t20,t21,()) (r,((),(),()),())
def zKX (r:zzF):LTree ty:=.ite (isL r) (.done .ret [.ptr 440 0,.lit (.int .i64 (getL r))] [.box ([.lit (.slice none 0 0),.lit (.slice none 0 0)]) false]) (.done (.exit 0) [.ptr 440 0,.ptr 441 0] [.box (base.enc 25 (getR r)) false,.box ([.lit (.slice none 0 0),.lit (.slice none 0 0)]) false])
def zNn:LL ty zl8:=za (zdd 440 0) (za (zdd 441 0) (za (lSl 54) (za zj (za zj zl))))
def zNw:BL ty zl1:=zeq (zdO (λx=>(⟨x.1,x.2.1⟩:Relation)) (λx=>(x.Columns,x.Rows,())) (λ_=>rfl) (za (lSl 75) (za (lSl 54) zl))) false (zeq (za zTX (za zTX zl)) false (zbb))
def zLV (t49:Int) (t50:Int) (t48:yF) (b3:yH) (b4:yF):Wy zmj zl3 zzB:=.i (decide (t50<t49)) (.i (decide (0<=t50)&&decide (t50<Int.ofNat t48.length)) (.i (Int.ofNat b4.length==0) (.bn (zvC (t48.getD t50.toNat default) (t48.getD t50.toNat default).Ann) λr8=>.i (decide ((b4.length+[r8].length)*48<=zbh)) (.h ((),(),(),t49,(IntKind.i64.wrap (t50+1)),()) (((),(),()),((),(),()),t48,b3,(b4++[r8]),())) .d) (.i (decide (0<=IntKind.i64.wrap (Int.ofNat b4.length - 1))&&decide (IntKind.i64.wrap (Int.ofNat b4.length - 1)<Int.ofNat b4.length)) (.bn (zcO (b4.getD (IntKind.i64.wrap (Int.ofNat b4.length - 1)).toNat default) (t48.getD t50.toNat default)) λr11=>.i (r11 != 0) (.bn (zvC (t48.getD t50.toNat default) (t48.getD t50.toNat default).Ann) λr9=>.i (decide ((b4.length+[r9].length)*48<=zbh)) (.h ((),(),(),t49,(IntKind.i64.wrap (t50+1)),()) (((),(),()),((),(),()),t48,b3,(b4++[r9]),())) .d) (.i (decide (0<=IntKind.i64.wrap (Int.ofNat b4.length - 1))&&decide (IntKind.i64.wrap (Int.ofNat b4.length - 1)<Int.ofNat b4.length)) (.bn (zw9 (b4.getD (IntKind.i64.wrap (Int.ofNat b4.length - 1)).toNat default).Ann (t48.getD t50.toNat default).Ann) λr10=>.i (r10.2 != 0) (.k (.inl (r10.2))) (.i (decide (0<=IntKind.i64.wrap (Int.ofNat b4.length - 1))&&decide (IntKind.i64.wrap (Int.ofNat b4.length - 1)<Int.ofNat b4.length)) (.i (decide ((IntKind.i64.wrap (Int.ofNat b4.length - 1)).toNat<b4.length)) (.h ((),(),(),t49,(IntKind.i64.wrap (t50+1)),()) (((),(),()),((),(),()),t48,b3,(b4.set (IntKind.i64.wrap (Int.ofNat b4.length - 1)).toNat (Row.mk (b4.getD (IntKind.i64.wrap (Int.ofNat b4.length - 1)).toNat default).Values r10.1)),())) .d) .d)) .d)) .d)) .d) (.k (.inr (b3,b4)))
def zyp (x:zmj) (y:zl3):=zLV x.2.2.2.1 x.2.2.2.2.1 y.2.2.1 y.2.2.2.1 y.2.2.2.2.1
def zLT (n:Nat) (t49:Int) (t50:Int) (t48:yF) (b3:yH) (b4:yF):=zB (zyp) (.inl default) n ((),(),(),t49,t50,()) (((),(),()),((),(),()),t48,b3,b4,())
def zJp (r:zzB):LTree ty:=.ite (isL r) (.done .ret [.ptr 440 0,.lit (.int .i64 (getL r))] [.box ([.lit (.slice none 0 0),.lit (.slice none 0 0)]) false]) (.done (.exit 2) [.ptr 440 0,.ptr 441 0] [.box ([.lit (.slice none 0 0),.lit (.slice none 0 0)]) false,.box ([.own 442,.own 443]) false,.arr 75 (getR r).1 false,.arr 54 (getR r).2 false])
def zLG:LL ty zmj:=za (zdd 440 0) (za (zdd 441 0) (za (zeJ 442) (za zj (za zj zl))))
def zLd:BL ty zl3:=zeq (za zTX (za zTX zl)) false (zeq (za (zeJ 443) (za (zeJ 444) zl)) false (zeE 54 false (zeE 75 false (zeE 54 false (zbb)))))
def zLm (x:zl8) (y:zl1):Nat:=(x.2.2.1.length+Int.toNat x.2.2.2.1+Int.toNat x.2.2.2.2.1+y.1.Columns.length+y.1.Rows.length+1000)
def zJU (x:zmj) (y:zl3):Nat:=(Int.toNat x.2.2.2.1+Int.toNat x.2.2.2.2.1+y.2.2.1.length+y.2.2.2.1.length+y.2.2.2.2.1.length+1000)
def zss:=zbX zbD 110 [(50,zmK),(51,zwe),(52,zcl),(53,ze5),(61,zjD),(67,zka),(68,zne),(69,ziC),(70,ziH),(71,zBq),(72,zvk)] [(67,[true,false]),(70,[true,false])] [(4,(kpL [1,2,19,20,21])),(15,[(2,.keep),(7,.boxOwn [(1,54)]),(48,.keep),(49,.keep),(50,.keep)])] [(4,1,(kpL [1,2])),(4,0,(kpL [2,3])),(15,3,(kpL [2,7])),(15,0,(kpL [2,3]))] [(4,spW zNn zNw (zz6) (.inl default) zKX zLm),(15,spW zLG zLd (zyp) (.inl default) zJp zJU)] []
theorem zLL:zF zss (lp (body f28) 0):=zn (id:=4) (hl:=rfl)
theorem zJK:zF zss (lp (body f28) 1):=zn (id:=15) (hl:=rfl)
def zN8 (r:Relation):Wy0 (Relation×Int):=.bn (zgF r.Columns) λr22=>.i (!r22) (.k ((⟨[],[]⟩:Relation),1)) (.bn (zMq (r.Rows.length+(Int.ofNat r.Rows.length).toNat +Int.toNat 0+r.Columns.length+r.Rows.length+1000) r.Rows (Int.ofNat r.Rows.length) 0 r) λr21=>.i (isL r21) (.k ((⟨[],[]⟩:Relation),getL r21)) (.bn (zkk (getR r21).Rows) λr20=>.bn (zh1 r20) λr19=>.bn (zgh r19) λr18=>.bn (zhI (getR r21).Columns) λr17=>.bn (zLT ((Int.ofNat r18.length).toNat +Int.toNat 0+r18.length+r17.length+0+1000) (Int.ofNat r18.length) 0 r18 r17 []) λr16=>.i (isL r16) (.k ((⟨[],[]⟩:Relation),getL r16)) (.i (decide (Int.ofNat (getR r16).2.length>1024)) (.k ((⟨[],[]⟩:Relation),6)) (.k ((⟨(getR r16).1,(getR r16).2⟩:Relation),0)))))
def zEJ (r:Relation):=(zN8 r).fin default
def zLJ (r:Relation×Int):ARes ty:=⟨[.pure (.agg (base.enc 25 r.1)),.pure (.lit (.int .i64 r.2))],[]⟩
def zxF:=zh zVs λx=>((zEJ x.1).1,zLJ (zEJ x.1).2)
theorem zHZ:Sound Tryz.prog zbD 28 zxF:=
 sU (cx':=zss) (zi ⟨zta.nodr,zCy.nodr,zco.nodr,zfW.nodr,zsR.nodr,zt4.nodr,zxm.nodr,zlz.nodr,zrr.nodr,zM0,zBd,trivial⟩) call28 func28 (lOK (aC zLL (aC zJK aN))) (sg:=⟨[.pure,.pure],[]⟩)
def z1O:=zbu zbD 50 [(12,zts),(14,zps),(16,zu1),(28,zxF),(42,zF3)]
def z2Y:Wy0 (Bool):=.k true
def zWt:Bool×Bool:=(z2Y).fin default
def z3b:AL zbD (Unit):=zq
def zHx:=zh z3b λx=>((zWt ).1,zQK (zWt ).2)
theorem zVh:Sound Tryz.prog zbD 10 zHx:=
 sU (cx':=z1O) (zi ⟨zzD,ztU.nodr,zAy.nodr,zHZ,zSL.nodr,trivial⟩) call10 func10 (lOK aN)
abbrev zxd:=yG×Int×Int×Unit
abbrev zND:=Bool⊕(yG×Int)
def zDm (l:yG) (n_:Int) (i:Int):Wy zxd Unit zND:=.i (decide (i<Int.ofNat l.length)) (.i (decide (0<=i)&&decide (i<Int.ofNat l.length)) (.i (decide (Int.ofNat (l.getD i.toNat default).Text.size>300)) (.k (.inl false)) (.h (l,n_,(IntKind.i64.wrap (i+1)),()) ())) .d) (.k (.inr (l,n_)))
def zM5 (x:zxd) (y:Unit):=zDm x.1 x.2.1 x.2.2.1
def zDk (n:Nat) (l:yG) (n_:Int) (i:Int):=zB (zM5) (.inl default) n (l,n_,i,()) ()
def zZo (r:zND):LTree ty:=.ite (isL r) (.done .ret [.lit (.bool (getL r))] []) (.done (.exit 0) [.sl 79 (getR r).1,.lit (.int .i64 (getR r).2)] [])
def z0O:LL ty zxd:=za (lSl 79) (za zj (za zj zl))
def zYU (x:zxd) (y:Unit):Nat:=(x.1.length+Int.toNat x.2.1+Int.toNat x.2.2.1+1)
def zNT:=zbX base 23 [] [] [(2,(kpL [0,1,5]))] [(2,1,(kpL [0,1])),(2,0,(kpL [4]))] [(2,spW z0O z3q (zM5) (.inl default) zZo zYU)] []
theorem zYE:zF zNT (lp (body f18) 0):=zn (id:=2) (hl:=rfl)
def zP8 (l:yG) (n_:Int):Wy0 (Bool):=.bn (zDk (l.length+n_.toNat +Int.toNat 0+1) l n_ 0) λr0=>.i (isL r0) (.k (getL r0)) (.k (decide (Int.ofNat (getR r0).1.length<=(getR r0).2)))
def zuV (l:yG) (n_:Int):=(zP8 l n_).fin default
def z3a:AL base (yG×Int×Unit):=zd (zg (vSl 79)) (zd (zg zgm) zq)
def zHB:=zh z3a λx=>((zuV x.1 x.2.1).1,zQK (zuV x.1 x.2.1).2)
theorem zV4:SdP 18 zHB:=
 sT (cx':=zNT) (zi trivial) call18 func18 (lOK (aC zYE aN))
def z1W:AL base (yB×Int×Int×Unit):=zd (zg (vSl 107)) (zd (zg (zfB .i64)) (zd (zg (zfB .i64)) zq))
def zsJ (F:yB->Int->Int->Bool×Int):Ab.Spec ty:=zh z1W λx=>((F x.1 x.2.1 x.2.2.1).1,zLH (F x.1 x.2.1 x.2.2.1).2)
abbrev zid:=yB×Int×Int×Int×Int×Int×Unit×Int×Unit
abbrev zKH:=yB×Int×Int×Int×Int×Int×At
abbrev zJ8:=yB×Int×Int×Int×Int×Int
abbrev zvD:=yB×Int×Int×Int×Int×Int×Unit
abbrev zKy:=yB×Int×Int×Int×Int
abbrev zvV:=yB×Int×Int×Int×Int×Unit
def zwf (zC:yB->Int->Int->Bool×Int) (a:yB) (limit:Int) (zcP:Int) (n_:Int) (i:Int) (k:Int) (j:Int) (x_:At):Wy zid (At×Unit) zKH:=.i (decide (j<Int.ofNat x_.Ag.length)) (.i (decide (n_<=limit)) (.i (decide (0<=j)&&decide (j<Int.ofNat x_.Ag.length)) (.bn (zC (x_.Ag.getD j.toNat default) (IntKind.i64.wrap (limit - n_)) (IntKind.i64.wrap (zcP - 1))) λr0=>.h (a,limit,zcP,(IntKind.i64.wrap (n_+r0)),i,k,(),(IntKind.i64.wrap (j+1)),()) (x_,())) .d) (.k (a,limit,zcP,n_,i,k,x_))) (.k (a,limit,zcP,n_,i,k,x_))
def zEc (zC:yB->Int->Int->Bool×Int) (x:zid) (y:At×Unit):=zwf zC x.1 x.2.1 x.2.2.1 x.2.2.2.1 x.2.2.2.2.1 x.2.2.2.2.2.1 x.2.2.2.2.2.2.2.1 y.1
def zw0 (zC:yB->Int->Int->Bool×Int) (n:Nat) (a:yB) (limit:Int) (zcP:Int) (n_:Int) (i:Int) (k:Int) (j:Int) (x_:At):=zB (zEc zC) default n (a,limit,zcP,n_,i,k,(),j,()) (x_,())
def zQH (r:zKH):LTree ty:=.done (.exit 4) [.sl 107 r.1,.lit (.int .i64 r.2.1),.lit (.int .i64 r.2.2.1),.lit (.int .i64 r.2.2.2.1),.lit (.int .i64 r.2.2.2.2.1),.lit (.int .i64 r.2.2.2.2.2.1),.ptr 544 0] [.box (base.enc 143 r.2.2.2.2.2.2) false]
def zUf:LL ty zid:=za (lSl 107) (za zj (za zj (za zj (za zj (za zj (za (zdd 544 0) (za zj zl)))))))
def zTu:BL ty (At×Unit):=zeq (zdO (λx=>(⟨x.1,⟨x.2.1,x.2.2.1⟩,x.2.2.2.1,x.2.2.2.2.1,x.2.2.2.2.2.1,x.2.2.2.2.2.2.1,⟨x.2.2.2.2.2.2.2.1,x.2.2.2.2.2.2.2.2.1,x.2.2.2.2.2.2.2.2.2.1⟩⟩:At)) (λx=>(x.Kind,x.Row.Table,x.Row.Seq,x.Ag,x.Func,x.Items,x.Op,x.Bd.Kind,x.Bd.Int,x.Bd.Text,())) (λ_=>rfl) (za (zO .i64) (za (zO .i64) (za (zO .i64) (za (lSl 51) (za (zO .i64) (za (lSl 169) (za (zO .i64) (za (zO .i64) (za (zO .i64) (za zjj zl))))))))))) false (zbb)
def zwh (zC:yB->Int->Int->Bool×Int) (a:yB) (limit:Int) (zcP:Int) (n_:Int) (i:Int) (k:Int) (j:Int) (x_:At):Wy zid (At×Unit) zJ8:=.i (decide (j<Int.ofNat x_.Items.length)) (.i (decide (n_<=limit)) (.i (decide (0<=j)&&decide (j<Int.ofNat x_.Items.length)) (.i (decide (0<=j)&&decide (j<Int.ofNat x_.Items.length)) (.bn (zC (x_.Items.getD j.toNat default).Ann (IntKind.i64.wrap (limit - n_)) (IntKind.i64.wrap (zcP - 1))) λr2=>.h (a,limit,zcP,(IntKind.i64.wrap (IntKind.i64.wrap (n_+Int.ofNat (x_.Items.getD j.toNat default).Value.Text.size)+r2)),i,k,(),(IntKind.i64.wrap (j+1)),()) (x_,())) .d) .d) (.k (a,limit,zcP,n_,i,k))) (.k (a,limit,zcP,n_,i,k))
def zDP (zC:yB->Int->Int->Bool×Int) (x:zid) (y:At×Unit):=zwh zC x.1 x.2.1 x.2.2.1 x.2.2.2.1 x.2.2.2.2.1 x.2.2.2.2.2.1 x.2.2.2.2.2.2.2.1 y.1
def zw3 (zC:yB->Int->Int->Bool×Int) (n:Nat) (a:yB) (limit:Int) (zcP:Int) (n_:Int) (i:Int) (k:Int) (j:Int) (x_:At):=zB (zDP zC) default n (a,limit,zcP,n_,i,k,(),j,()) (x_,())
def zRO (r:zJ8):LTree ty:=.done (.exit 6) [.sl 107 r.1,.lit (.int .i64 r.2.1),.lit (.int .i64 r.2.2.1),.lit (.int .i64 r.2.2.2.1),.lit (.int .i64 r.2.2.2.2.1),.lit (.int .i64 r.2.2.2.2.2)] []
def zx9 (zC:yB->Int->Int->Bool×Int) (a:yB) (limit:Int) (zcP:Int) (n_:Int) (i:Int) (k:Int):Wy zvD Unit zKy:=.i (decide (0<=i)&&decide (i<Int.ofNat a.length)) (.i (decide (k<Int.ofNat (a.getD i.toNat default).Fs.length)) (.i (decide (n_<=limit)) (.i (decide (0<=i)&&decide (i<Int.ofNat a.length)) (.i (decide (0<=k)&&decide (k<Int.ofNat (a.getD i.toNat default).Fs.length)) (.bn (zw0 zC (a.length+limit.toNat +zcP.toNat +(IntKind.i64.wrap (IntKind.i64.wrap (IntKind.i64.wrap (n_+Int.ofNat ((a.getD i.toNat default).Fs.getD k.toNat default).At.Items.length)+Int.ofNat ((a.getD i.toNat default).Fs.getD k.toNat default).At.Ag.length)+Int.ofNat ((a.getD i.toNat default).Fs.getD k.toNat default).At.Bd.Text.size)).toNat +i.toNat +k.toNat +Int.toNat 0+((a.getD i.toNat default).Fs.getD k.toNat default).At.Ag.length+((a.getD i.toNat default).Fs.getD k.toNat default).At.Items.length+1) a limit zcP (IntKind.i64.wrap (IntKind.i64.wrap (IntKind.i64.wrap (n_+Int.ofNat ((a.getD i.toNat default).Fs.getD k.toNat default).At.Items.length)+Int.ofNat ((a.getD i.toNat default).Fs.getD k.toNat default).At.Ag.length)+Int.ofNat ((a.getD i.toNat default).Fs.getD k.toNat default).At.Bd.Text.size)) i k 0 (At.mk ((a.getD i.toNat default).Fs.getD k.toNat default).At.Kind ((a.getD i.toNat default).Fs.getD k.toNat default).At.Row ((a.getD i.toNat default).Fs.getD k.toNat default).At.Ag ((a.getD i.toNat default).Fs.getD k.toNat default).At.Func ((a.getD i.toNat default).Fs.getD k.toNat default).At.Items ((a.getD i.toNat default).Fs.getD k.toNat default).At.Op ((a.getD i.toNat default).Fs.getD k.toNat default).At.Bd)) λr5=>.bn (zw3 zC (r5.1.length+r5.2.1.toNat +r5.2.2.1.toNat +r5.2.2.2.1.toNat +r5.2.2.2.2.1.toNat +r5.2.2.2.2.2.1.toNat +Int.toNat 0+r5.2.2.2.2.2.2.Ag.length+r5.2.2.2.2.2.2.Items.length+1) r5.1 r5.2.1 r5.2.2.1 r5.2.2.2.1 r5.2.2.2.2.1 r5.2.2.2.2.2.1 0 (At.mk r5.2.2.2.2.2.2.Kind r5.2.2.2.2.2.2.Row r5.2.2.2.2.2.2.Ag r5.2.2.2.2.2.2.Func r5.2.2.2.2.2.2.Items r5.2.2.2.2.2.2.Op r5.2.2.2.2.2.2.Bd)) λr4=>.h ((r4.1),(r4.2.1),(r4.2.2.1),(r4.2.2.2.1),(r4.2.2.2.2.1),(IntKind.i64.wrap (r4.2.2.2.2.2+1)),()) ()) .d) .d) (.k (a,limit,zcP,n_,i))) (.k (a,limit,zcP,n_,i))) .d
def zGq (zC:yB->Int->Int->Bool×Int) (x:zvD) (y:Unit):=zx9 zC x.1 x.2.1 x.2.2.1 x.2.2.2.1 x.2.2.2.2.1 x.2.2.2.2.2.1
def zxY (zC:yB->Int->Int->Bool×Int) (n:Nat) (a:yB) (limit:Int) (zcP:Int) (n_:Int) (i:Int) (k:Int):=zB (zGq zC) default n (a,limit,zcP,n_,i,k,()) ()
def zTa (r:zKy):LTree ty:=.done (.exit 2) [.sl 107 r.1,.lit (.int .i64 r.2.1),.lit (.int .i64 r.2.2.1),.lit (.int .i64 r.2.2.2.1),.lit (.int .i64 r.2.2.2.2)] []
def zVY:LL ty zvD:=za (lSl 107) (za zj (za zj (za zj (za zj (za zj zl)))))
def zx4 (zC:yB->Int->Int->Bool×Int) (a:yB) (limit:Int) (zcP:Int) (n_:Int) (i:Int):Wy zvV Unit (Int):=.i (decide (i<Int.ofNat a.length)) (.i (decide (n_<=limit)) (.i (decide (0<=i)&&decide (i<Int.ofNat a.length)) (.bn (zxY zC (a.length+limit.toNat +zcP.toNat +(IntKind.i64.wrap (IntKind.i64.wrap (n_+1)+Int.ofNat (a.getD i.toNat default).Fs.length)).toNat +i.toNat +Int.toNat 0+1) a limit zcP (IntKind.i64.wrap (IntKind.i64.wrap (n_+1)+Int.ofNat (a.getD i.toNat default).Fs.length)) i 0) λr8=>.h ((r8.1),(r8.2.1),(r8.2.2.1),(r8.2.2.2.1),(IntKind.i64.wrap (r8.2.2.2.2+1)),()) ()) .d) (.k n_)) (.k n_)
def zGr (zC:yB->Int->Int->Bool×Int) (x:zvV) (y:Unit):=zx4 zC x.1 x.2.1 x.2.2.1 x.2.2.2.1 x.2.2.2.2.1
def zxV (zC:yB->Int->Int->Bool×Int) (n:Nat) (a:yB) (limit:Int) (zcP:Int) (n_:Int) (i:Int):=zB (zGr zC) default n (a,limit,zcP,n_,i,()) ()
def zVc:LL ty zvV:=za (lSl 107) (za zj (za zj (za zj (za zj zl))))
def zRL (x:zid) (y:At×Unit):Nat:=(x.1.length+Int.toNat x.2.1+Int.toNat x.2.2.1+Int.toNat x.2.2.2.1+Int.toNat x.2.2.2.2.1+Int.toNat x.2.2.2.2.2.1+Int.toNat x.2.2.2.2.2.2.2.1+y.1.Ag.length+y.1.Items.length+1)
def zUw (x:zvD) (y:Unit):Nat:=(x.1.length+Int.toNat x.2.1+Int.toNat x.2.2.1+Int.toNat x.2.2.2.1+Int.toNat x.2.2.2.2.1+Int.toNat x.2.2.2.2.2.1+1)
def zTH (x:zvV) (y:Unit):Nat:=(x.1.length+Int.toNat x.2.1+Int.toNat x.2.2.1+Int.toNat x.2.2.2.1+Int.toNat x.2.2.2.2.1+1)
def zm7 (zC:yB->Int->Int->Bool×Int):=zbX base 136 [(79,(zsJ zC))] [] [(5,(kpL [0,1,2,7,8])),(9,(kpL [0,1,2,7,8,9])),(14,(kpL [0,1,2,7,8,9,10,11])),(18,(kpL [0,1,2,7,8,9,10,12]))] [(5,1,(kpL [7])),(9,3,(kpL [0,1,2,7,8])),(14,5,(kpL [0,1,2,7,8,9,10])),(18,7,(kpL [0,1,2,7,8,9]))] [(14,spW zUf zTu (zEc zC) default zQH zRL),(18,spW zUf zTu (zDP zC) default zRO zRL),(9,spW zVY z3q (zGq zC) default zTa zUw),(5,spW zVc z3q (zGr zC) default zMn zTH)] []
theorem zRJ (zC:yB->Int->Int->Bool×Int):zF (zm7 zC) (lp (body f79) 2):=zn (id:=14) (hl:=rfl)
theorem zRi (zC:yB->Int->Int->Bool×Int):zF (zm7 zC) (lp (body f79) 3):=zn (id:=18) (hl:=rfl)
theorem zTB (zC:yB->Int->Int->Bool×Int):zF (zm7 zC) (lp (body f79) 1):=zn (id:=9) (hl:=rfl)
theorem zSX (zC:yB->Int->Int->Bool×Int):zF (zm7 zC) (lp (body f79) 0):=zn (id:=5) (hl:=rfl)
def zyU (zC:yB->Int->Int->Bool×Int) (a:yB) (limit:Int) (zcP:Int):Wy0 (Int):=.i (zcP==0) (.k (IntKind.i64.wrap (limit+1))) (.bn (zxV zC (a.length+limit.toNat +zcP.toNat +Int.toNat 0+Int.toNat 0+1) a limit zcP 0 0) λr10=>.k r10)
def zsB (zC:yB->Int->Int->Bool×Int) (a:yB) (limit:Int) (zcP:Int):=(zyU zC a limit zcP).fin default
theorem zOe (zC:yB->Int->Int->Bool×Int) (zXD:SdP 79 (zsJ zC)):SdP 79 (zsJ (zsB zC)):=
 sT (cx':=(zm7 zC)) (zi ⟨zXD,trivial⟩) call79 func79 (lOK (aC (zSX zC) (aC (zTB zC) (aC (zRJ zC) (aC (zRi zC) aN)))))
def zWj:Nat->(yB->Int->Int->Bool×Int)
 | 0=>λ_ _ _=>(false,default)
 | n+1=>zsB (zWj n)
def zoy (n:Nat):yB->Int->Int->Bool×Int:=zWj n
theorem zGs (n:Nat):zoy (n+1)=zsB (zoy n):=rfl
theorem zQf:∀ n,SdP 79 (zsJ (zoy n))
 | 0=>z8 call79 (λ_=>rfl)
 | n+1=>by
  have ih:=zQf n;exact zOe _ (ih)
def zIm:yB->Int->Int->Bool×Int:=zoy 1000
def zGf:Ab.Spec ty:=zsJ zIm
theorem zSw:SdP 79 zGf:=(zQf 1000)
abbrev zAP:=Int×yA×Int×Unit
def zIp (limit:Int) (l:yA) (i:Int):Wy zAP Unit (Bool⊕Unit):=.i (decide (i<Int.ofNat l.length)) (.i (decide (0<=i)&&decide (i<Int.ofNat l.length)) (.bn (zIm (l.getD i.toNat default) limit 12) λr0=>.i (decide (r0>limit)) (.k (.inl false)) (.h (limit,l,(IntKind.i64.wrap (i+1)),()) ())) .d) (.k (.inr ()))
def zTT (x:zAP) (y:Unit):=zIp x.1 x.2.1 x.2.2.1
def zHU (n:Nat) (limit:Int) (l:yA) (i:Int):=zB (zTT) (.inl default) n (limit,l,i,()) ()
def z4e:LL ty zAP:=za zj (za (lSl 51) (za zj zl))
def z3g (x:zAP) (y:Unit):Nat:=(Int.toNat x.1+x.2.1.length+Int.toNat x.2.2.1+1)
def zT5:=zbX base 20 [(79,zGf)] [] [(2,(kpL [0,1,5]))] [(2,1,[]),(2,0,(kpL [4]))] [(2,spW z4e z3q (zTT) (.inl default) zlC z3g)] []
theorem z3A:zF zT5 (lp (body f36) 0):=zn (id:=2) (hl:=rfl)
def zWu (limit:Int) (l:yA):Wy0 (Bool):=.bn (zHU (limit.toNat +l.length+Int.toNat 0+1) limit l 0) λr2=>.i (isL r2) (.k (getL r2)) (.k true)
def zzK (limit:Int) (l:yA):=(zWu limit l).fin default
def z5P:AL base (Int×yA×Unit):=zd (zg zgm) (zd (zg (vSl 51)) zq)
def zM9:=zh z5P λx=>((zzK x.1 x.2.1).1,zQK (zzK x.1 x.2.1).2)
theorem zYS:SdP 36 zM9:=
 sT (cx':=zT5) (zi ⟨zSw,trivial⟩) call36 func36 (lOK (aC z3A aN))
abbrev zlu:=Int×Int×List Relation×Int×Int×Unit
abbrev zAK:=Bool⊕(Int×Int×List Relation×Int)
abbrev zBa:=Int×Int×List Relation×Int×Unit
def zIQ (rows:Int) (weight:Int) (l:List Relation) (i:Int) (k:Int):Wy zlu Unit zAK:=.i (decide (0<=i)&&decide (i<Int.ofNat l.length)) (.i (decide (k<Int.ofNat (l.getD i.toNat default).Columns.length)) (.i (decide (0<=i)&&decide (i<Int.ofNat l.length)) (.i (decide (0<=k)&&decide (k<Int.ofNat (l.getD i.toNat default).Columns.length)) (.i (decide (Int.ofNat ((l.getD i.toNat default).Columns.getD k.toNat default).Name.size>100)) (.k (.inl false)) (.h (rows,weight,l,i,(IntKind.i64.wrap (k+1)),()) ())) .d) .d) (.k (.inr (rows,weight,l,i)))) .d
def zHy (x:zlu) (y:Unit):=zIQ x.1 x.2.1 x.2.2.1 x.2.2.2.1 x.2.2.2.2.1
def zUa (n:Nat) (rows:Int) (weight:Int) (l:List Relation) (i:Int) (k:Int):=zB (zHy) (.inl default) n (rows,weight,l,i,k,()) ()
def z3j (r:zAK):LTree ty:=.ite (isL r) (.done .ret [.lit (.bool (getL r))] []) (.done (.exit 2) [.lit (.int .i64 (getR r).1),.lit (.int .i64 (getR r).2.1),.sl 25 (getR r).2.2.1,.lit (.int .i64 (getR r).2.2.2)] [])
def z4h:LL ty zlu:=za zj (za zj (za (lSl 25) (za zj (za zj zl))))
def zFL (rows:Int) (weight:Int) (l:List Relation) (i:Int) (k:Int):Wy zlu Unit zAK:=.i (decide (0<=i)&&decide (i<Int.ofNat l.length)) (.i (decide (k<Int.ofNat (l.getD i.toNat default).Rows.length)) (.i (decide (0<=i)&&decide (i<Int.ofNat l.length)) (.i (decide (0<=k)&&decide (k<Int.ofNat (l.getD i.toNat default).Rows.length)) (.bn (zuV ((l.getD i.toNat default).Rows.getD k.toNat default).Values 20) λr1=>.i (!r1) (.k (.inl false)) (.i (decide (0<=i)&&decide (i<Int.ofNat l.length)) (.i (decide (0<=k)&&decide (k<Int.ofNat (l.getD i.toNat default).Rows.length)) (.bn (zzK weight [((l.getD i.toNat default).Rows.getD k.toNat default).Ann]) λr0=>.i (!r0) (.k (.inl false)) (.h (rows,weight,l,i,(IntKind.i64.wrap (k+1)),()) ())) .d) .d)) .d) .d) (.k (.inr (rows,weight,l,i)))) .d
def zFN (x:zlu) (y:Unit):=zFL x.1 x.2.1 x.2.2.1 x.2.2.2.1 x.2.2.2.2.1
def zQc (n:Nat) (rows:Int) (weight:Int) (l:List Relation) (i:Int) (k:Int):=zB (zFN) (.inl default) n (rows,weight,l,i,k,()) ()
def z1F (r:zAK):LTree ty:=.ite (isL r) (.done .ret [.lit (.bool (getL r))] []) (.done (.exit 4) [.lit (.int .i64 (getR r).1),.lit (.int .i64 (getR r).2.1),.sl 25 (getR r).2.2.1,.lit (.int .i64 (getR r).2.2.2)] [])
def zIj (rows:Int) (weight:Int) (l:List Relation) (i:Int):Wy zBa Unit (Bool⊕Unit):=.i (decide (i<Int.ofNat l.length)) (.i (decide (0<=i)&&decide (i<Int.ofNat l.length)) (.i (decide (Int.ofNat (l.getD i.toNat default).Rows.length>rows)) (.k (.inl false)) (.i (decide (0<=i)&&decide (i<Int.ofNat l.length)) (.i (decide (Int.ofNat (l.getD i.toNat default).Columns.length>20)) (.k (.inl false)) (.bn (zUa (rows.toNat +weight.toNat +l.length+i.toNat +Int.toNat 0+1000) rows weight l i 0) λr5=>.i (isL r5) (.k (.inl (getL r5))) (.bn (zQc ((getR r5).1.toNat +(getR r5).2.1.toNat +(getR r5).2.2.1.length+(getR r5).2.2.2.toNat +Int.toNat 0+1000) (getR r5).1 (getR r5).2.1 (getR r5).2.2.1 (getR r5).2.2.2 0) λr4=>.i (isL r4) (.k (.inl (getL r4))) (.h ((getR r4).1,(getR r4).2.1,(getR r4).2.2.1,(IntKind.i64.wrap ((getR r4).2.2.2+1)),()) ())))) .d)) .d) (.k (.inr ()))
def zI2 (x:zBa) (y:Unit):=zIj x.1 x.2.1 x.2.2.1 x.2.2.2.1
def zUx (n:Nat) (rows:Int) (weight:Int) (l:List Relation) (i:Int):=zB (zI2) (.inl default) n (rows,weight,l,i,()) ()
def z48:LL ty zBa:=za zj (za zj (za (lSl 25) (za zj zl)))
def z2X (x:zlu) (y:Unit):Nat:=(Int.toNat x.1+Int.toNat x.2.1+x.2.2.1.length+Int.toNat x.2.2.2.1+Int.toNat x.2.2.2.2.1+1000)
def z2N (x:zBa) (y:Unit):Nat:=(Int.toNat x.1+Int.toNat x.2.1+x.2.2.1.length+Int.toNat x.2.2.2.1+1000)
def zAV:=zbX base 90 [(18,zHB),(36,zM9)] [] [(2,(kpL [0,1,2,7])),(7,(kpL [0,1,2,7,8])),(12,(kpL [0,1,2,7,9]))] [(2,1,[]),(2,0,(kpL [6])),(7,3,(kpL [0,1,2,7])),(7,0,(kpL [6])),(12,5,(kpL [0,1,2,7])),(12,0,(kpL [6]))] [(7,spW z4h z3q (zHy) (.inl default) z3j z2X),(12,spW z4h z3q (zFN) (.inl default) z1F z2X),(2,spW z48 z3q (zI2) (.inl default) zlC z2N)] []
theorem z3D:zF zAV (lp (body f11) 1):=zn (id:=7) (hl:=rfl)
theorem z1i:zF zAV (lp (body f11) 2):=zn (id:=12) (hl:=rfl)
theorem z3h:zF zAV (lp (body f11) 0):=zn (id:=2) (hl:=rfl)
def zWv (rows:Int) (weight:Int) (l:List Relation):Wy0 (Bool):=.bn (zUx (rows.toNat +weight.toNat +l.length+Int.toNat 0+1000) rows weight l 0) λr8=>.i (isL r8) (.k (getL r8)) (.k true)
def zzR (rows:Int) (weight:Int) (l:List Relation):=(zWv rows weight l).fin default
def z5R:AL base (Int×Int×List Relation×Unit):=zd (zg zgm) (zd (zg zgm) (zd (zg (vSl 25)) zq))
def zMr:=zh z5R λx=>((zzR x.1 x.2.1 x.2.2.1).1,zQK (zzR x.1 x.2.1 x.2.2.1).2)
theorem zYO:SdP 11 zMr:=
 sT (cx':=zAV) (zi ⟨zV4,zYS,trivial⟩) call11 func11 (lOK (aC z3h (aC z3D (aC z1i aN))))
end Go.Proofs.YtoknknbmfmddbaaGreatDoor
/- What lies inside lists of terms and factors: fuel for loops. -/
namespace Go.Proofs.YtoknknbmfmddbaaGreatDoor
open Go.Proofs.Tryz
def z73:yC->Nat
 | []=>0
 | f::r=>f.Exp.toNat +f.At.Ag.length+f.At.Items.length+1+z73 r
def zd3:yB->Nat
 | []=>0
 | t::r=>z73 t.Fs+1+zd3 r
end Go.Proofs.YtoknknbmfmddbaaGreatDoor
namespace Go.Proofs.YtoknknbmfmddbaaGreatDoor
open Go Go.Ab
open Go.Proofs.Tryz
def ziu (F:yC->yC->Bool×Int):Ab.Spec ty:=zh zU4 λx=>((F x.1 x.2.1).1,zLH (F x.1 x.2.1).2)
def zP6:AL base (yD×yD×Unit):=zd (zg (vSl 169)) (zd (zg (vSl 169)) zq)
def zjx (F:yD->yD->Bool×Int):Ab.Spec ty:=zh zP6 λx=>((F x.1 x.2.1).1,zLH (F x.1 x.2.1).2)
def zZq:=zbu base 11 []
def zMW (a:Int) (b:Int):Wy0 (Int):=.i (decide (a<b)) (.k (-1:Int)) (.i (decide (a>b)) (.k 1) (.k 0))
def zcI (a:Int) (b:Int):=(zMW a b).fin default
def zj5:=zh zRk λx=>((zcI x.1 x.2.1).1,zLH (zcI x.1 x.2.1).2)
theorem zll:SdP 129 zj5:=
 sT (cx':=zZq) (zi trivial) call129 func129 (lOK aN)
abbrev ztv:=yB×yB×Int×Unit
abbrev zIK:=Int⊕(yB×yB)
def zS1 (zbc:yC->yC->Bool×Int) (a:yB) (b:yB) (i:Int):Wy ztv Unit zIK:=.i (decide (i<Int.ofNat a.length)) (.i (decide (i<Int.ofNat b.length)) (.i (decide (0<=i)&&decide (i<Int.ofNat a.length)) (.i (decide (0<=i)&&decide (i<Int.ofNat b.length)) (.bn (zbc (a.getD i.toNat default).Fs (b.getD i.toNat default).Fs) λr1=>.i (r1 != 0) (.k (.inl (r1))) (.i (decide (0<=i)&&decide (i<Int.ofNat a.length)) (.i (decide (0<=i)&&decide (i<Int.ofNat b.length)) (.bn (zcI (a.getD i.toNat default).Cf (b.getD i.toNat default).Cf) λr0=>.i (r0 != 0) (.k (.inl (r0))) (.h (a,b,(IntKind.i64.wrap (i+1)),()) ())) .d) .d)) .d) .d) (.k (.inr (a,b)))) (.k (.inr (a,b)))
def zEL (zbc:yC->yC->Bool×Int) (x:ztv) (y:Unit):=zS1 zbc x.1 x.2.1 x.2.2.1
def zTo (zbc:yC->yC->Bool×Int) (n:Nat) (a:yB) (b:yB) (i:Int):=zB (zEL zbc) (.inl default) n (a,b,i,()) ()
def zQE (r:zIK):LTree ty:=.ite (isL r) (.done .ret [.lit (.int .i64 (getL r))] []) (.done (.exit 0) [.sl 107 (getR r).1,.sl 107 (getR r).2] [])
def zSp:LL ty ztv:=za (lSl 107) (za (lSl 107) (za zj zl))
def zQ5 (x:ztv) (y:Unit):Nat:=(x.1.length+x.2.1.length+Int.toNat x.2.2.1+1)
def zEA (zbc:yC->yC->Bool×Int):=zbX base 53 [(110,(ziu zbc)),(129,zj5)] [] [(2,(kpL [0,1,5]))] [(2,1,(kpL [0,1])),(2,0,(kpL [4]))] [(2,spW zSp z3q (zEL zbc) (.inl default) zQE zQ5)] []
theorem zRH (zbc:yC->yC->Bool×Int):zF (zEA zbc) (lp (body f76) 0):=zn (id:=2) (hl:=rfl)
def zU0 (zbc:yC->yC->Bool×Int) (a:yB) (b:yB):Wy0 (Int):=.bn (zTo zbc (a.length+b.length+Int.toNat 0+1) a b 0) λr5=>.i (isL r5) (.k (getL r5)) (.bn (zcI (Int.ofNat (getR r5).1.length) (Int.ofNat (getR r5).2.length)) λr4=>.k r4)
def zvL (zbc:yC->yC->Bool×Int) (a:yB) (b:yB):=(zU0 zbc a b).fin default
theorem zNA (zbc:yC->yC->Bool×Int) (zIL:SdP 110 (ziu zbc)):SdP 76 (zdG (zvL zbc)):=
 sT (cx':=(zEA zbc)) (zi ⟨zIL,zll,trivial⟩) call76 func76 (lOK (aC (zRH zbc) aN))
def z3y:=zbu base 4 []
def zSE (less:Bool):Wy0 (Int):=.i (less) (.k (-1:Int)) (.k 1)
def zq9 (less:Bool):=(zSE less).fin default
def z3U:AL base (Bool×Unit):=zd (zg zbdP) zq
def zAX:=zh z3U λx=>((zq9 x.1).1,zLH (zq9 x.1).2)
theorem zIf:SdP 114 zAX:=
 sT (cx':=z3y) (zi trivial) call114 func114 (lOK aN)
def zWX:=zbu base 38 [(114,zAX)]
def zKg (a:Value) (b:Value):Wy0 (Int):=.i (a.Kind != b.Kind) (.bn (zq9 (decide (a.Kind<b.Kind))) λr0=>.k r0) (.i (a.Int != b.Int) (.bn (zq9 (decide (a.Int<b.Int))) λr1=>.k r1) (.i (!a.Text.toList==b.Text.toList) (.bn (zq9 (Op.bytesLess a.Text.toList b.Text.toList)) λr2=>.k r2) (.k 0)))
def ziE (a:Value) (b:Value):=(zKg a b).fin default
def zqT:=zh zZu λx=>((ziE x.1 x.2.1).1,zLH (ziE x.1 x.2.1).2)
theorem zu2:SdP 113 zqT:=
 sT (cx':=zWX) (zi ⟨zIf,trivial⟩) call113 func113 (lOK aN)
def zRw:=zbu base 19 [(129,zj5)]
def zEQ (a:RowID) (b:RowID):Wy0 (Int):=.bn (zcI a.Table b.Table) λr1=>.i (r1 != 0) (.k r1) (.bn (zcI a.Seq b.Seq) λr0=>.k r0)
def zoI (a:RowID) (b:RowID):=(zEQ a b).fin default
def zUq:AL base (RowID×RowID×Unit):=zd (zg (zcb 63)) (zd (zg (zcb 63)) zq)
def zzZ:=zh zUq λx=>((zoI x.1 x.2.1).1,zLH (zoI x.1 x.2.1).2)
theorem zLr:SdP 189 zzZ:=
 sT (cx':=zRw) (zi ⟨zll,trivial⟩) call189 func189 (lOK aN)
abbrev znl:=Unit×Unit×Int×Unit
abbrev znI:=At×At×Unit
abbrev zBl:=Int⊕(At×At)
def zrz (zQ:yB->yB->Bool×Int) (zbl:yD->yD->Bool×Int) (i:Int) (a:At) (b:At):Wy znl znI zBl:=.i (decide (i<Int.ofNat a.Ag.length)) (.i (decide (i<Int.ofNat b.Ag.length)) (.i (decide (0<=i)&&decide (i<Int.ofNat a.Ag.length)) (.i (decide (0<=i)&&decide (i<Int.ofNat b.Ag.length)) (.bn (zQ (a.Ag.getD i.toNat default) (b.Ag.getD i.toNat default)) λr0=>.i (r0 != 0) (.k (.inl (r0))) (.h ((),(),(IntKind.i64.wrap (i+1)),()) (a,b,()))) .d) .d) (.k (.inr (a,b)))) (.k (.inr (a,b)))
def zyy (zQ:yB->yB->Bool×Int) (zbl:yD->yD->Bool×Int) (x:znl) (y:znI):=zrz zQ zbl x.2.2.1 y.1 y.2.1
def zrs (zQ:yB->yB->Bool×Int) (zbl:yD->yD->Bool×Int) (n:Nat) (i:Int) (a:At) (b:At):=zB (zyy zQ zbl) (.inl default) n ((),(),i,()) (a,b,())
def zJP (r:zBl):LTree ty:=.ite (isL r) (.done .ret [.lit (.int .i64 (getL r))] []) (.done (.exit 0) [.ptr 384 0,.ptr 385 0] [.box (base.enc 143 (getR r).1) false,.box (base.enc 143 (getR r).2) false])
def zK0:LL ty znl:=za (zdd 384 0) (za (zdd 385 0) (za zj zl))
def zLi:BL ty znI:=zeq (zdO (λx=>(⟨x.1,⟨x.2.1,x.2.2.1⟩,x.2.2.2.1,x.2.2.2.2.1,x.2.2.2.2.2.1,x.2.2.2.2.2.2.1,⟨x.2.2.2.2.2.2.2.1,x.2.2.2.2.2.2.2.2.1,x.2.2.2.2.2.2.2.2.2.1⟩⟩:At)) (λx=>(x.Kind,x.Row.Table,x.Row.Seq,x.Ag,x.Func,x.Items,x.Op,x.Bd.Kind,x.Bd.Int,x.Bd.Text,())) (λ_=>rfl) (za (zO .i64) (za (zO .i64) (za (zO .i64) (za (lSl 51) (za (zO .i64) (za (lSl 169) (za (zO .i64) (za (zO .i64) (za (zO .i64) (za zjj zl))))))))))) false (zeq (zdO (λx=>(⟨x.1,⟨x.2.1,x.2.2.1⟩,x.2.2.2.1,x.2.2.2.2.1,x.2.2.2.2.2.1,x.2.2.2.2.2.2.1,⟨x.2.2.2.2.2.2.2.1,x.2.2.2.2.2.2.2.2.1,x.2.2.2.2.2.2.2.2.2.1⟩⟩:At)) (λx=>(x.Kind,x.Row.Table,x.Row.Seq,x.Ag,x.Func,x.Items,x.Op,x.Bd.Kind,x.Bd.Int,x.Bd.Text,())) (λ_=>rfl) (za (zO .i64) (za (zO .i64) (za (zO .i64) (za (lSl 51) (za (zO .i64) (za (lSl 169) (za (zO .i64) (za (zO .i64) (za (zO .i64) (za zjj zl))))))))))) false (zbb))
def zJz (x:znl) (y:znI):Nat:=(Int.toNat x.2.2.1+y.1.Ag.length+y.1.Items.length+y.2.1.Ag.length+y.2.1.Items.length+1)
def zym (zQ:yB->yB->Bool×Int) (zbl:yD->yD->Bool×Int):=zbX base 96 [(76,(zdG zQ)),(113,zqT),(129,zj5),(188,(zjx zbl)),(189,zzZ)] [] [(8,(kpL [2,3,7]))] [(8,1,(kpL [2,3])),(8,0,(kpL [4]))] [(8,spW zK0 zLi (zyy zQ zbl) (.inl default) zJP zJz)] []
theorem zJj (zQ:yB->yB->Bool×Int) (zbl:yD->yD->Bool×Int):zF (zym zQ zbl) (lp (body f112) 0):=zn (id:=8) (hl:=rfl)
def zzT (zQ:yB->yB->Bool×Int) (zbl:yD->yD->Bool×Int) (a:At) (b:At):Wy0 (Int):=.bn (zcI a.Kind b.Kind) λr9=>.i (r9 != 0) (.k r9) (.bn (zoI a.Row b.Row) λr8=>.i (r8 != 0) (.k r8) (.bn (zrs zQ zbl (Int.toNat 0+a.Ag.length+a.Items.length+b.Ag.length+b.Items.length+1) 0 (At.mk a.Kind a.Row a.Ag a.Func a.Items a.Op a.Bd) (At.mk b.Kind b.Row b.Ag b.Func b.Items b.Op b.Bd)) λr7=>.i (isL r7) (.k (getL r7)) (.bn (zcI (Int.ofNat (getR r7).1.Ag.length) (Int.ofNat (getR r7).2.Ag.length)) λr6=>.i (r6 != 0) (.k r6) (.bn (zcI (getR r7).1.Func (getR r7).2.Func) λr5=>.i (r5 != 0) (.k r5) (.bn (zbl (getR r7).1.Items (getR r7).2.Items) λr4=>.i (r4 != 0) (.k r4) (.bn (zcI (getR r7).1.Op (getR r7).2.Op) λr3=>.i (r3 != 0) (.k r3) (.bn (ziE (getR r7).1.Bd (getR r7).2.Bd) λr2=>.k r2)))))))
def zkC (zQ:yB->yB->Bool×Int) (zbl:yD->yD->Bool×Int) (a:At) (b:At):=(zzT zQ zbl a b).fin default
theorem zHo (zQ:yB->yB->Bool×Int) (zbl:yD->yD->Bool×Int) (zxU:SdP 76 (zdG zQ)) (zK7:SdP 188 (zjx zbl)):SdP 112 (zgq (zkC zQ zbl)):=
 sT (cx':=(zym zQ zbl)) (zi ⟨zxU,zu2,zll,zK7,zLr,trivial⟩) call112 func112 (lOK (aC (zJj zQ zbl) aN))
abbrev zkn:=yC×yC×Int×Unit
abbrev zxD:=Int⊕(yC×yC)
def zvO (zbv:At->At->Bool×Int) (a:yC) (b:yC) (i:Int):Wy zkn Unit zxD:=.i (decide (i<Int.ofNat a.length)) (.i (decide (i<Int.ofNat b.length)) (.i (decide (0<=i)&&decide (i<Int.ofNat a.length)) (.i (decide (0<=i)&&decide (i<Int.ofNat b.length)) (.bn (zbv (At.mk (a.getD i.toNat default).At.Kind (a.getD i.toNat default).At.Row (a.getD i.toNat default).At.Ag (a.getD i.toNat default).At.Func (a.getD i.toNat default).At.Items (a.getD i.toNat default).At.Op (a.getD i.toNat default).At.Bd) (At.mk (b.getD i.toNat default).At.Kind (b.getD i.toNat default).At.Row (b.getD i.toNat default).At.Ag (b.getD i.toNat default).At.Func (b.getD i.toNat default).At.Items (b.getD i.toNat default).At.Op (b.getD i.toNat default).At.Bd)) λr1=>.i (r1 != 0) (.k (.inl (r1))) (.i (decide (0<=i)&&decide (i<Int.ofNat a.length)) (.i (decide (0<=i)&&decide (i<Int.ofNat b.length)) (.bn (zcI (a.getD i.toNat default).Exp (b.getD i.toNat default).Exp) λr0=>.i (r0 != 0) (.k (.inl (r0))) (.h (a,b,(IntKind.i64.wrap (i+1)),()) ())) .d) .d)) .d) .d) (.k (.inr (a,b)))) (.k (.inr (a,b)))
def zi7 (zbv:At->At->Bool×Int) (x:zkn) (y:Unit):=zvO zbv x.1 x.2.1 x.2.2.1
def zvF (zbv:At->At->Bool×Int) (n:Nat) (a:yC) (b:yC) (i:Int):=zB (zi7 zbv) (.inl default) n (a,b,i,()) ()
def zFS (r:zxD):LTree ty:=.ite (isL r) (.done .ret [.lit (.int .i64 (getL r))] []) (.done (.exit 0) [.sl 145 (getR r).1,.sl 145 (getR r).2] [])
def zHn:LL ty zkn:=za (lSl 145) (za (lSl 145) (za zj zl))
def zFs (x:zkn) (y:Unit):Nat:=(x.1.length+x.2.1.length+Int.toNat x.2.2.1+1)
def zvA (zbv:At->At->Bool×Int):=zbX base 53 [(112,(zgq zbv)),(129,zj5)] [] [(2,(kpL [0,1,5]))] [(2,1,(kpL [0,1])),(2,0,(kpL [4]))] [(2,spW zHn z3q (zi7 zbv) (.inl default) zFS zFs)] []
theorem zFc (zbv:At->At->Bool×Int):zF (zvA zbv) (lp (body f110) 0):=zn (id:=2) (hl:=rfl)
def zwU (zbv:At->At->Bool×Int) (a:yC) (b:yC):Wy0 (Int):=.bn (zvF zbv (a.length+b.length+Int.toNat 0+1) a b 0) λr5=>.i (isL r5) (.k (getL r5)) (.bn (zcI (Int.ofNat (getR r5).1.length) (Int.ofNat (getR r5).2.length)) λr4=>.k r4)
def ziA (zbv:At->At->Bool×Int) (a:yC) (b:yC):=(zwU zbv a b).fin default
theorem zCR (zbv:At->At->Bool×Int) (zMX:SdP 112 (zgq zbv)):SdP 110 (ziu (ziA zbv)):=
 sT (cx':=(zvA zbv)) (zi ⟨zMX,zll,trivial⟩) call110 func110 (lOK (aC (zFc zbv) aN))
abbrev zma:=yD×yD×Int×Unit
abbrev zzE:=Int⊕(yD×yD)
def zJ3 (zQ:yB->yB->Bool×Int) (a:yD) (b:yD) (i:Int):Wy zma Unit zzE:=.i (decide (i<Int.ofNat a.length)) (.i (decide (i<Int.ofNat b.length)) (.i (decide (0<=i)&&decide (i<Int.ofNat a.length)) (.i (decide (0<=i)&&decide (i<Int.ofNat b.length)) (.bn (ziE (a.getD i.toNat default).Value (b.getD i.toNat default).Value) λr1=>.i (r1 != 0) (.k (.inl (r1))) (.i (decide (0<=i)&&decide (i<Int.ofNat a.length)) (.i (decide (0<=i)&&decide (i<Int.ofNat b.length)) (.bn (zQ (a.getD i.toNat default).Ann (b.getD i.toNat default).Ann) λr0=>.i (r0 != 0) (.k (.inl (r0))) (.h (a,b,(IntKind.i64.wrap (i+1)),()) ())) .d) .d)) .d) .d) (.k (.inr (a,b)))) (.k (.inr (a,b)))
def zxr (zQ:yB->yB->Bool×Int) (x:zma) (y:Unit):=zJ3 zQ x.1 x.2.1 x.2.2.1
def zJZ (zQ:yB->yB->Bool×Int) (n:Nat) (a:yD) (b:yD) (i:Int):=zB (zxr zQ) (.inl default) n (a,b,i,()) ()
def zI3 (r:zzE):LTree ty:=.ite (isL r) (.done .ret [.lit (.int .i64 (getL r))] []) (.done (.exit 0) [.sl 169 (getR r).1,.sl 169 (getR r).2] [])
def zJJ:LL ty zma:=za (lSl 169) (za (lSl 169) (za zj zl))
def zI1 (x:zma) (y:Unit):Nat:=(x.1.length+x.2.1.length+Int.toNat x.2.2.1+1)
def zxG (zQ:yB->yB->Bool×Int):=zbX base 53 [(76,(zdG zQ)),(113,zqT),(129,zj5)] [] [(2,(kpL [0,1,5]))] [(2,1,(kpL [0,1])),(2,0,(kpL [4]))] [(2,spW zJJ z3q (zxr zQ) (.inl default) zI3 zI1)] []
theorem zIx (zQ:yB->yB->Bool×Int):zF (zxG zQ) (lp (body f188) 0):=zn (id:=2) (hl:=rfl)
def zLb (zQ:yB->yB->Bool×Int) (a:yD) (b:yD):Wy0 (Int):=.bn (zJZ zQ (a.length+b.length+Int.toNat 0+1) a b 0) λr5=>.i (isL r5) (.k (getL r5)) (.bn (zcI (Int.ofNat (getR r5).1.length) (Int.ofNat (getR r5).2.length)) λr4=>.k r4)
def znD (zQ:yB->yB->Bool×Int) (a:yD) (b:yD):=(zLb zQ a b).fin default
theorem zER (zQ:yB->yB->Bool×Int) (zxU:SdP 76 (zdG zQ)):SdP 188 (zjx (znD zQ)):=
 sT (cx':=(zxG zQ)) (zi ⟨zxU,zu2,zll,trivial⟩) call188 func188 (lOK (aC (zIx zQ) aN))
def zjS:Nat->(yB->yB->Bool×Int)×(yC->yC->Bool×Int)×(At->At->Bool×Int)×(yD->yD->Bool×Int)
 | 0=>(λ_ _=>(false,default),λ_ _=>(false,default),λ_ _=>(false,default),λ_ _=>(false,default))
 | n+1=>(zvL ((zjS n).2.1),ziA ((zjS n).2.2.1),zkC ((zjS n).1) ((zjS n).2.2.2),znD ((zjS n).1))
def zl5 (n:Nat):yB->yB->Bool×Int:=(zjS n).1
def zir (n:Nat):yC->yC->Bool×Int:=(zjS n).2.1
def zky (n:Nat):At->At->Bool×Int:=(zjS n).2.2.1
def zjR (n:Nat):yD->yD->Bool×Int:=(zjS n).2.2.2
theorem zSr (n:Nat):zl5 (n+1)=zvL (zir n):=rfl
theorem zGM (n:Nat):zir (n+1)=ziA (zky n):=rfl
theorem zL4 (n:Nat):zky (n+1)=zkC (zl5 n) (zjR n):=rfl
theorem zJc (n:Nat):zjR (n+1)=znD (zl5 n):=rfl
theorem zr5:∀ n,SdP 76 (zdG (zl5 n))/\SdP 110 (ziu (zir n))/\SdP 112 (zgq (zky n))/\SdP 188 (zjx (zjR n))
 | 0=>⟨z8 call76 (λ_=>rfl),z8 call110 (λ_=>rfl),z8 call112 (λ_=>rfl),z8 call188 (λ_=>rfl)⟩
 | n+1=>by
  have ih:=zr5 n;exact ⟨zNA _ (ih.2.1),zCR _ (ih.2.2.1),zHo _ _ (ih.1) (ih.2.2.2),zER _ (ih.1)⟩
def zFy:yB->yB->Bool×Int:=zl5 1000
def zDM:Ab.Spec ty:=zdG zFy
theorem zRm:SdP 76 zDM:=(zr5 1000).1
def zti:yC->yC->Bool×Int:=zir 1000
def zvT:Ab.Spec ty:=ziu zti
theorem zFa:SdP 110 zvT:=(zr5 1000).2.1
def zrS:At->At->Bool×Int:=zky 1000
def zyA:Ab.Spec ty:=zgq zrS
theorem zJu:SdP 112 zyA:=(zr5 1000).2.2.1
def zwz:yD->yD->Bool×Int:=zjR 1000
def zxC:Ab.Spec ty:=zjx zwz
theorem zH0:SdP 188 zxC:=(zr5 1000).2.2.2
abbrev zg0:=yB×Int×Int×Int×Unit×Int×Int×Unit
abbrev zHC:=yB×Int×Int×Int×Int×At
abbrev zI5:=yB×Int×Int×Int×Int
abbrev ztQ:=yB×Int×Int×Int×Unit
abbrev zId:=yB×Int×Int
abbrev ztG:=yB×Int×Int×Unit
def zkI (zw:yB->Bool×Int) (a:yB) (most:Int) (i:Int) (k:Int) (n_:Int) (j:Int) (x_:At):Wy zg0 (At×Unit) zHC:=.i (decide (j<Int.ofNat x_.Ag.length)) (.i (decide (0<=j)&&decide (j<Int.ofNat x_.Ag.length)) (.bn (zw (x_.Ag.getD j.toNat default)) λr0=>.h (a,most,i,k,(),(if IntKind.i64.wrap (1+r0)>n_ then IntKind.i64.wrap (1+r0) else n_),(IntKind.i64.wrap (j+1)),()) (x_,())) .d) (.k (a,most,i,k,n_,x_))
def zvm (zw:yB->Bool×Int) (x:zg0) (y:At×Unit):=zkI zw x.1 x.2.1 x.2.2.1 x.2.2.2.1 x.2.2.2.2.2.1 x.2.2.2.2.2.2.1 y.1
def zvi (zw:yB->Bool×Int) (n:Nat) (a:yB) (most:Int) (i:Int) (k:Int) (n_:Int) (j:Int) (x_:At):=zB (zvm zw) default n (a,most,i,k,(),n_,j,()) (x_,())
def zPT (r:zHC):LTree ty:=.done (.exit 4) [.sl 107 r.1,.lit (.int .i64 r.2.1),.lit (.int .i64 r.2.2.1),.lit (.int .i64 r.2.2.2.1),.ptr 300 0,.lit (.int .i64 r.2.2.2.2.1)] [.box (base.enc 143 r.2.2.2.2.2) false]
def zQP:LL ty zg0:=za (lSl 107) (za zj (za zj (za zj (za (zdd 300 0) (za zj (za zj zl))))))
def zkL (zw:yB->Bool×Int) (a:yB) (most:Int) (i:Int) (k:Int) (n_:Int) (j:Int) (x_:At):Wy zg0 (At×Unit) zI5:=.i (decide (j<Int.ofNat x_.Items.length)) (.i (decide (0<=j)&&decide (j<Int.ofNat x_.Items.length)) (.bn (zw (x_.Items.getD j.toNat default).Ann) λr2=>.h (a,most,i,k,(),(if IntKind.i64.wrap (1+r2)>n_ then IntKind.i64.wrap (1+r2) else n_),(IntKind.i64.wrap (j+1)),()) (x_,())) .d) (.k (a,most,i,k,n_))
def zu5 (zw:yB->Bool×Int) (x:zg0) (y:At×Unit):=zkL zw x.1 x.2.1 x.2.2.1 x.2.2.2.1 x.2.2.2.2.2.1 x.2.2.2.2.2.2.1 y.1
def zCp (zw:yB->Bool×Int) (n:Nat) (a:yB) (most:Int) (i:Int) (k:Int) (n_:Int) (j:Int) (x_:At):=zB (zu5 zw) default n (a,most,i,k,(),n_,j,()) (x_,())
def zPd (r:zI5):LTree ty:=.done (.exit 6) [.sl 107 r.1,.lit (.int .i64 r.2.1),.lit (.int .i64 r.2.2.1),.lit (.int .i64 r.2.2.2.1),.lit (.int .i64 r.2.2.2.2)] []
def zlR (zw:yB->Bool×Int) (a:yB) (most:Int) (i:Int) (k:Int):Wy ztQ Unit zId:=.i (decide (0<=i)&&decide (i<Int.ofNat a.length)) (.i (decide (k<Int.ofNat (a.getD i.toNat default).Fs.length)) (.i (decide (0<=i)&&decide (i<Int.ofNat a.length)) (.i (decide (0<=k)&&decide (k<Int.ofNat (a.getD i.toNat default).Fs.length)) (.i (((a.getD i.toNat default).Fs.getD k.toNat default).At.Kind==0) (.h (a,most,i,(IntKind.i64.wrap (k+1)),()) ()) (.bn (zvi zw ((a.length+most.toNat +i.toNat +k.toNat +Int.toNat 1+Int.toNat 0+((a.getD i.toNat default).Fs.getD k.toNat default).At.Ag.length+((a.getD i.toNat default).Fs.getD k.toNat default).At.Items.length+1)+zd3 a) a most i k 1 0 (At.mk ((a.getD i.toNat default).Fs.getD k.toNat default).At.Kind ((a.getD i.toNat default).Fs.getD k.toNat default).At.Row ((a.getD i.toNat default).Fs.getD k.toNat default).At.Ag ((a.getD i.toNat default).Fs.getD k.toNat default).At.Func ((a.getD i.toNat default).Fs.getD k.toNat default).At.Items ((a.getD i.toNat default).Fs.getD k.toNat default).At.Op ((a.getD i.toNat default).Fs.getD k.toNat default).At.Bd)) λr5=>.bn (zCp zw ((r5.1.length+r5.2.1.toNat +r5.2.2.1.toNat +r5.2.2.2.1.toNat +r5.2.2.2.2.1.toNat +Int.toNat 0+r5.2.2.2.2.2.Ag.length+r5.2.2.2.2.2.Items.length+1)+zd3 r5.1) r5.1 r5.2.1 r5.2.2.1 r5.2.2.2.1 r5.2.2.2.2.1 0 (At.mk r5.2.2.2.2.2.Kind r5.2.2.2.2.2.Row r5.2.2.2.2.2.Ag r5.2.2.2.2.2.Func r5.2.2.2.2.2.Items r5.2.2.2.2.2.Op r5.2.2.2.2.2.Bd)) λr4=>.h ((r4.1),(if r4.2.2.2.2>r4.2.1 then r4.2.2.2.2 else r4.2.1),(r4.2.2.1),(IntKind.i64.wrap (r4.2.2.2.1+1)),()) ())) .d) .d) (.k (a,most,i))) .d
def zwH (zw:yB->Bool×Int) (x:ztQ) (y:Unit):=zlR zw x.1 x.2.1 x.2.2.1 x.2.2.2.1
def zEF (zw:yB->Bool×Int) (n:Nat) (a:yB) (most:Int) (i:Int) (k:Int):=zB (zwH zw) default n (a,most,i,k,()) ()
def zRP (r:zId):LTree ty:=.done (.exit 2) [.sl 107 r.1,.lit (.int .i64 r.2.1),.lit (.int .i64 r.2.2)] []
def zUk:LL ty ztQ:=za (lSl 107) (za zj (za zj (za zj zl)))
def zlL (zw:yB->Bool×Int) (a:yB) (most:Int) (i:Int):Wy ztG Unit (Int):=.i (decide (i<Int.ofNat a.length)) (.bn (zEF zw ((a.length+most.toNat +i.toNat +Int.toNat 0+1)+zd3 a) a most i 0) λr8=>.h ((r8.1),(r8.2.1),(IntKind.i64.wrap (r8.2.2+1)),()) ()) (.k most)
def zws (zw:yB->Bool×Int) (x:ztG) (y:Unit):=zlL zw x.1 x.2.1 x.2.2.1
def zDE (zw:yB->Bool×Int) (n:Nat) (a:yB) (most:Int) (i:Int):=zB (zws zw) default n (a,most,i,()) ()
def zSM:LL ty ztG:=za (lSl 107) (za zj (za zj zl))
def zPc (x:zg0) (y:At×Unit):Nat:=((x.1.length+Int.toNat x.2.1+Int.toNat x.2.2.1+Int.toNat x.2.2.2.1+Int.toNat x.2.2.2.2.2.1+Int.toNat x.2.2.2.2.2.2.1+y.1.Ag.length+y.1.Items.length+1)+zd3 x.1)
def zQ8 (x:ztQ) (y:Unit):Nat:=((x.1.length+Int.toNat x.2.1+Int.toNat x.2.2.1+Int.toNat x.2.2.2.1+1)+zd3 x.1)
def zQI (x:ztG) (y:Unit):Nat:=((x.1.length+Int.toNat x.2.1+Int.toNat x.2.2.1+1)+zd3 x.1)
def zlq (zw:yB->Bool×Int):=zbX base 75 [(182,(znc zw))] [] [(3,(kpL [0,3,4])),(6,(kpL [0,3,4,5])),(12,(kpL [0,3,4,5,6,7,8])),(16,(kpL [0,3,4,5,6,7,9]))] [(3,1,(kpL [3])),(6,3,(kpL [0,3,4])),(12,5,(kpL [0,3,4,5,6,7])),(16,7,(kpL [0,3,4,5,7]))] [(12,spW zQP zTu (zvm zw) default zPT zPc),(16,spW zQP zTu (zu5 zw) default zPd zPc),(6,spW zUk z3q (zwH zw) default zRP zQ8),(3,spW zSM z3q (zws zw) default zMn zQI)] []
theorem zOy (zw:yB->Bool×Int):zF (zlq zw) (lp (body f182) 2):=zn (id:=12) (hl:=rfl)
theorem zPh (zw:yB->Bool×Int):zF (zlq zw) (lp (body f182) 3):=zn (id:=16) (hl:=rfl)
theorem zRD (zw:yB->Bool×Int):zF (zlq zw) (lp (body f182) 1):=zn (id:=6) (hl:=rfl)
theorem zQQ (zw:yB->Bool×Int):zF (zlq zw) (lp (body f182) 0):=zn (id:=3) (hl:=rfl)
def zF5 (zw:yB->Bool×Int) (a:yB):Wy0 (Int):=.bn (zDE zw ((a.length+Int.toNat 0+Int.toNat 0+1)+zd3 a) a 0 0) λr10=>.k r10
def zvW (zw:yB->Bool×Int) (a:yB):=(zF5 zw a).fin default
theorem zM1 (zw:yB->Bool×Int) (zVX:SdP 182 (znc zw)):SdP 182 (znc (zvW zw)):=
 sT (cx':=(zlq zw)) (zi ⟨zVX,trivial⟩) call182 func182 (lOK (aC (zQQ zw) (aC (zRD zw) (aC (zOy zw) (aC (zPh zw) aN)))))
def zUm:Nat->(yB->Bool×Int)
 | 0=>λ_=>(false,default)
 | n+1=>zvW (zUm n)
def zjV (n:Nat):yB->Bool×Int:=zUm n
theorem zTI (n:Nat):zjV (n+1)=zvW (zjV n):=rfl
theorem zNN:∀ n,SdP 182 (znc (zjV n))
 | 0=>z8 call182 (λ_=>rfl)
 | n+1=>by
  have ih:=zNN n;exact zM1 _ (ih)
def zES:yB->Bool×Int:=zjV 1000
def zD0:Ab.Spec ty:=znc zES
theorem zQ1:SdP 182 zD0:=(zNN 1000)
abbrev zkc:=yB×Int×Int×Int×Unit×Int×Unit
abbrev zQi:=yB×Int×Int×Int×At
abbrev zQy:=yB×Int×Int×Int
abbrev zyH:=yB×Int×Int×Int×Unit
abbrev zQw:=yB×Int×Int
abbrev zyE:=yB×Int×Int×Unit
def zoK (zN:yB->Bool×Int) (a:yB) (n_:Int) (i:Int) (k:Int) (j:Int) (x_:At):Wy zkc (At×Unit) zQi:=.i (decide (j<Int.ofNat x_.Ag.length)) (.i (decide (0<=j)&&decide (j<Int.ofNat x_.Ag.length)) (.bn (zN (x_.Ag.getD j.toNat default)) λr0=>.h (a,(IntKind.i64.wrap (n_+r0)),i,k,(),(IntKind.i64.wrap (j+1)),()) (x_,())) .d) (.k (a,n_,i,k,x_))
def zzn (zN:yB->Bool×Int) (x:zkc) (y:At×Unit):=zoK zN x.1 x.2.1 x.2.2.1 x.2.2.2.1 x.2.2.2.2.2.1 y.1
def zIY (zN:yB->Bool×Int) (n:Nat) (a:yB) (n_:Int) (i:Int) (k:Int) (j:Int) (x_:At):=zB (zzn zN) default n (a,n_,i,k,(),j,()) (x_,())
def zVx (r:zQi):LTree ty:=.done (.exit 4) [.sl 107 r.1,.lit (.int .i64 r.2.1),.lit (.int .i64 r.2.2.1),.lit (.int .i64 r.2.2.2.1),.ptr 284 0] [.box (base.enc 143 r.2.2.2.2) false]
def zXv:LL ty zkc:=za (lSl 107) (za zj (za zj (za zj (za (zdd 284 0) (za zj zl)))))
def zoW (zN:yB->Bool×Int) (a:yB) (n_:Int) (i:Int) (k:Int) (j:Int) (x_:At):Wy zkc (At×Unit) zQy:=.i (decide (j<Int.ofNat x_.Items.length)) (.i (decide (0<=j)&&decide (j<Int.ofNat x_.Items.length)) (.bn (zN (x_.Items.getD j.toNat default).Ann) λr2=>.h (a,(IntKind.i64.wrap (IntKind.i64.wrap (n_+1)+r2)),i,k,(),(IntKind.i64.wrap (j+1)),()) (x_,())) .d) (.k (a,n_,i,k))
def zzv (zN:yB->Bool×Int) (x:zkc) (y:At×Unit):=zoW zN x.1 x.2.1 x.2.2.1 x.2.2.2.1 x.2.2.2.2.2.1 y.1
def zJa (zN:yB->Bool×Int) (n:Nat) (a:yB) (n_:Int) (i:Int) (k:Int) (j:Int) (x_:At):=zB (zzv zN) default n (a,n_,i,k,(),j,()) (x_,())
def zVJ (r:zQy):LTree ty:=.done (.exit 6) [.sl 107 r.1,.lit (.int .i64 r.2.1),.lit (.int .i64 r.2.2.1),.lit (.int .i64 r.2.2.2)] []
def zq4 (zN:yB->Bool×Int) (a:yB) (n_:Int) (i:Int) (k:Int):Wy zyH Unit zQw:=.i (decide (0<=i)&&decide (i<Int.ofNat a.length)) (.i (decide (k<Int.ofNat (a.getD i.toNat default).Fs.length)) (.i (decide (0<=i)&&decide (i<Int.ofNat a.length)) (.i (decide (0<=k)&&decide (k<Int.ofNat (a.getD i.toNat default).Fs.length)) (.bn (zIY zN ((a.length+(IntKind.i64.wrap (n_+1)).toNat +i.toNat +k.toNat +Int.toNat 0+((a.getD i.toNat default).Fs.getD k.toNat default).At.Ag.length+((a.getD i.toNat default).Fs.getD k.toNat default).At.Items.length+1)+zd3 a) a (IntKind.i64.wrap (n_+1)) i k 0 (At.mk ((a.getD i.toNat default).Fs.getD k.toNat default).At.Kind ((a.getD i.toNat default).Fs.getD k.toNat default).At.Row ((a.getD i.toNat default).Fs.getD k.toNat default).At.Ag ((a.getD i.toNat default).Fs.getD k.toNat default).At.Func ((a.getD i.toNat default).Fs.getD k.toNat default).At.Items ((a.getD i.toNat default).Fs.getD k.toNat default).At.Op ((a.getD i.toNat default).Fs.getD k.toNat default).At.Bd)) λr5=>.bn (zJa zN ((r5.1.length+r5.2.1.toNat +r5.2.2.1.toNat +r5.2.2.2.1.toNat +Int.toNat 0+r5.2.2.2.2.Ag.length+r5.2.2.2.2.Items.length+1)+zd3 r5.1) r5.1 r5.2.1 r5.2.2.1 r5.2.2.2.1 0 (At.mk r5.2.2.2.2.Kind r5.2.2.2.2.Row r5.2.2.2.2.Ag r5.2.2.2.2.Func r5.2.2.2.2.Items r5.2.2.2.2.Op r5.2.2.2.2.Bd)) λr4=>.h ((r4.1),(r4.2.1),(r4.2.2.1),(IntKind.i64.wrap (r4.2.2.2+1)),()) ()) .d) .d) (.k (a,n_,i))) .d
def zBD (zN:yB->Bool×Int) (x:zyH) (y:Unit):=zq4 zN x.1 x.2.1 x.2.2.1 x.2.2.2.1
def zKL (zN:yB->Bool×Int) (n:Nat) (a:yB) (n_:Int) (i:Int) (k:Int):=zB (zBD zN) default n (a,n_,i,k,()) ()
def zYq (r:zQw):LTree ty:=.done (.exit 2) [.sl 107 r.1,.lit (.int .i64 r.2.1),.lit (.int .i64 r.2.2)] []
def zYY:LL ty zyH:=za (lSl 107) (za zj (za zj (za zj zl)))
def zq6 (zN:yB->Bool×Int) (a:yB) (n_:Int) (i:Int):Wy zyE Unit (Int):=.i (decide (i<Int.ofNat a.length)) (.bn (zKL zN ((a.length+(IntKind.i64.wrap (n_+1)).toNat +i.toNat +Int.toNat 0+1)+zd3 a) a (IntKind.i64.wrap (n_+1)) i 0) λr8=>.h ((r8.1),(r8.2.1),(IntKind.i64.wrap (r8.2.2+1)),()) ()) (.k n_)
def zBn (zN:yB->Bool×Int) (x:zyE) (y:Unit):=zq6 zN x.1 x.2.1 x.2.2.1
def zJ9 (zN:yB->Bool×Int) (n:Nat) (a:yB) (n_:Int) (i:Int):=zB (zBn zN) default n (a,n_,i,()) ()
def zYR:LL ty zyE:=za (lSl 107) (za zj (za zj zl))
def zVt (x:zkc) (y:At×Unit):Nat:=((x.1.length+Int.toNat x.2.1+Int.toNat x.2.2.1+Int.toNat x.2.2.2.1+Int.toNat x.2.2.2.2.2.1+y.1.Ag.length+y.1.Items.length+1)+zd3 x.1)
def zYg (x:zyH) (y:Unit):Nat:=((x.1.length+Int.toNat x.2.1+Int.toNat x.2.2.1+Int.toNat x.2.2.2.1+1)+zd3 x.1)
def zW5 (x:zyE) (y:Unit):Nat:=((x.1.length+Int.toNat x.2.1+Int.toNat x.2.2.1+1)+zd3 x.1)
def zqB (zN:yB->Bool×Int):=zbX base 71 [(183,(znc zN))] [] [(3,(kpL [0,3,4])),(7,(kpL [0,3,4,5])),(12,(kpL [0,3,4,5,6,7])),(16,(kpL [0,3,4,5,6,8]))] [(3,1,(kpL [3])),(7,3,(kpL [0,3,4])),(12,5,(kpL [0,3,4,5,6])),(16,7,(kpL [0,3,4,5]))] [(12,spW zXv zTu (zzn zN) default zVx zVt),(16,spW zXv zTu (zzv zN) default zVJ zVt),(7,spW zYY z3q (zBD zN) default zYq zYg),(3,spW zYR z3q (zBn zN) default zMn zW5)] []
theorem zVP (zN:yB->Bool×Int):zF (zqB zN) (lp (body f183) 2):=zn (id:=12) (hl:=rfl)
theorem zVK (zN:yB->Bool×Int):zF (zqB zN) (lp (body f183) 3):=zn (id:=16) (hl:=rfl)
theorem zWV (zN:yB->Bool×Int):zF (zqB zN) (lp (body f183) 1):=zn (id:=7) (hl:=rfl)
theorem zYr (zN:yB->Bool×Int):zF (zqB zN) (lp (body f183) 0):=zn (id:=3) (hl:=rfl)
def zNZ (zN:yB->Bool×Int) (a:yB):Wy0 (Int):=.bn (zJ9 zN ((a.length+Int.toNat 0+Int.toNat 0+1)+zd3 a) a 0 0) λr10=>.k r10
def zAz (zN:yB->Bool×Int) (a:yB):=(zNZ zN a).fin default
theorem zTt (zN:yB->Bool×Int) (z0L:SdP 183 (znc zN)):SdP 183 (znc (zAz zN)):=
 sT (cx':=(zqB zN)) (zi ⟨z0L,trivial⟩) call183 func183 (lOK (aC (zYr zN) (aC (zWV zN) (aC (zVP zN) (aC (zVK zN) aN)))))
def z2K:Nat->(yB->Bool×Int)
 | 0=>λ_=>(false,default)
 | n+1=>zAz (z2K n)
def zsC (n:Nat):yB->Bool×Int:=z2K n
theorem zY8 (n:Nat):zsC (n+1)=zAz (zsC n):=rfl
theorem zWw:∀ n,SdP 183 (znc (zsC n))
 | 0=>z8 call183 (λ_=>rfl)
 | n+1=>by
  have ih:=zWw n;exact zTt _ (ih)
def zPB:yB->Bool×Int:=zsC 1000
def zKd:Ab.Spec ty:=znc zPB
theorem zW7:SdP 183 zKd:=(zWw 1000)
abbrev zyD:=yB×Int×Int×Unit
abbrev zQn:=Bool⊕(yB×Int)
abbrev zyF:=yB×Int×Unit
def zt9 (a:yB) (i:Int) (k:Int):Wy zyD Unit zQn:=.i (decide (0<=i)&&decide (i<Int.ofNat a.length)) (.i (decide (k<Int.ofNat (a.getD i.toNat default).Fs.length)) (.i (decide (0<=i)&&decide (i<Int.ofNat a.length)) (.i (decide (0<=k)&&decide (k<Int.ofNat (a.getD i.toNat default).Fs.length)) (.i (decide (((a.getD i.toNat default).Fs.getD k.toNat default).Exp>64)) (.k (.inl false)) (.i (decide (0<=i)&&decide (i<Int.ofNat a.length)) (.i (decide (0<=k)&&decide (k<Int.ofNat (a.getD i.toNat default).Fs.length)) (.i (decide (Int.ofNat ((a.getD i.toNat default).Fs.getD k.toNat default).At.Items.length>1024)) (.k (.inl false)) (.h (a,i,(IntKind.i64.wrap (k+1)),()) ())) .d) .d)) .d) .d) (.k (.inr (a,i)))) .d
def zFI (x:zyD) (y:Unit):=zt9 x.1 x.2.1 x.2.2.1
def zQB (n:Nat) (a:yB) (i:Int) (k:Int):=zB (zFI) (.inl default) n (a,i,k,()) ()
def z16 (r:zQn):LTree ty:=.ite (isL r) (.done .ret [.lit (.bool (getL r))] []) (.done (.exit 2) [.sl 107 (getR r).1,.lit (.int .i64 (getR r).2)] [])
def z2L:LL ty zyD:=za (lSl 107) (za zj (za zj zl))
def zuL (a:yB) (i:Int):Wy zyF Unit (Bool⊕Unit):=.i (decide (i<Int.ofNat a.length)) (.i (decide (0<=i)&&decide (i<Int.ofNat a.length)) (.i (decide (Int.ofNat (a.getD i.toNat default).Fs.length>64)) (.k (.inl false)) (.bn (zQB ((a.length+i.toNat +Int.toNat 0+1)+zd3 a) a i 0) λr0=>.i (isL r0) (.k (.inl (getL r0))) (.h ((getR r0).1,(IntKind.i64.wrap ((getR r0).2+1)),()) ()))) .d) (.k (.inr ()))
def zFd (x:zyF) (y:Unit):=zuL x.1 x.2.1
def zQD (n:Nat) (a:yB) (i:Int):=zB (zFd) (.inl default) n (a,i,()) ()
def z3e:LL ty zyF:=za (lSl 107) (za zj zl)
def z1t (x:zyD) (y:Unit):Nat:=((x.1.length+Int.toNat x.2.1+Int.toNat x.2.2.1+1)+zd3 x.1)
def z0Z (x:zyF) (y:Unit):Nat:=((x.1.length+Int.toNat x.2.1+1)+zd3 x.1)
def zFi:=zbX base 65 [(182,zD0),(183,zKd)] [] [(4,(kpL [0,3])),(9,(kpL [0,3,4]))] [(4,1,[]),(4,0,(kpL [2])),(9,3,(kpL [0,3])),(9,0,(kpL [2]))] [(9,spW z2L z3q (zFI) (.inl default) z16 z1t),(4,spW z3e z3q (zFd) (.inl default) zlC z0Z)] []
theorem z0J:zF zFi (lp (body f109) 1):=zn (id:=9) (hl:=rfl)
theorem z01:zF zFi (lp (body f109) 0):=zn (id:=4) (hl:=rfl)
def zSc (a:yB):Wy0 (Bool):=.i (decide (Int.ofNat a.length>512)) (.k false) (.bn (zES a) λr4=>.i (decide (r4>8)) (.k false) (.bn (zPB a) λr3=>.i (decide (r3>4096)) (.k false) (.bn (zQD ((a.length+Int.toNat 0+1)+zd3 a) a 0) λr2=>.i (isL r2) (.k (getL r2)) (.k true))))
def zBJ (a:yB):=(zSc a).fin default
def zKN:=zh zSC λx=>((zBJ x.1).1,zQK (zBJ x.1).2)
theorem zX9:SdP 109 zKN:=
 sT (cx':=zFi) (zi ⟨zQ1,zW7,trivial⟩) call109 func109 (lOK (aC z01 (aC z0J aN)))
abbrev zxl:=yB×Int×Unit×Int×Unit
abbrev zME:=Bool⊕(yB×Int)
abbrev zxe:=yB×Int×Unit
def zmW (zU:At->Bool×Bool) (a:yB) (i:Int) (k:Int) (t:Term):Wy zxl (Term×Unit) zME:=.i (decide (k<Int.ofNat t.Fs.length)) (.i (decide (0<=k)&&decide (k<Int.ofNat t.Fs.length)) (.i (decide ((t.Fs.getD k.toNat default).Exp<1)) (.k (.inl false)) (.i (decide ((t.Fs.getD k.toNat default).Exp>1)) (.i (decide ((t.Fs.getD k.toNat default).At.Kind≥3)) (.k (.inl false)) (.bn (zU (At.mk (t.Fs.getD k.toNat default).At.Kind (t.Fs.getD k.toNat default).At.Row (t.Fs.getD k.toNat default).At.Ag (t.Fs.getD k.toNat default).At.Func (t.Fs.getD k.toNat default).At.Items (t.Fs.getD k.toNat default).At.Op (t.Fs.getD k.toNat default).At.Bd)) λr1=>.i (!r1) (.k (.inl false)) (.i (decide (k>0)) (.i (decide (0<=IntKind.i64.wrap (k - 1))&&decide (IntKind.i64.wrap (k - 1)<Int.ofNat t.Fs.length)) (.bn (zrS (At.mk (t.Fs.getD (IntKind.i64.wrap (k - 1)).toNat default).At.Kind (t.Fs.getD (IntKind.i64.wrap (k - 1)).toNat default).At.Row (t.Fs.getD (IntKind.i64.wrap (k - 1)).toNat default).At.Ag (t.Fs.getD (IntKind.i64.wrap (k - 1)).toNat default).At.Func (t.Fs.getD (IntKind.i64.wrap (k - 1)).toNat default).At.Items (t.Fs.getD (IntKind.i64.wrap (k - 1)).toNat default).At.Op (t.Fs.getD (IntKind.i64.wrap (k - 1)).toNat default).At.Bd) (At.mk (t.Fs.getD k.toNat default).At.Kind (t.Fs.getD k.toNat default).At.Row (t.Fs.getD k.toNat default).At.Ag (t.Fs.getD k.toNat default).At.Func (t.Fs.getD k.toNat default).At.Items (t.Fs.getD k.toNat default).At.Op (t.Fs.getD k.toNat default).At.Bd)) λr0=>.i (decide (r0≥0)) (.k (.inl false)) (.h (a,i,(),(IntKind.i64.wrap (k+1)),()) (t,()))) .d) (.h (a,i,(),(IntKind.i64.wrap (k+1)),()) (t,()))))) (.bn (zU (At.mk (t.Fs.getD k.toNat default).At.Kind (t.Fs.getD k.toNat default).At.Row (t.Fs.getD k.toNat default).At.Ag (t.Fs.getD k.toNat default).At.Func (t.Fs.getD k.toNat default).At.Items (t.Fs.getD k.toNat default).At.Op (t.Fs.getD k.toNat default).At.Bd)) λr3=>.i (!r3) (.k (.inl false)) (.i (decide (k>0)) (.i (decide (0<=IntKind.i64.wrap (k - 1))&&decide (IntKind.i64.wrap (k - 1)<Int.ofNat t.Fs.length)) (.bn (zrS (At.mk (t.Fs.getD (IntKind.i64.wrap (k - 1)).toNat default).At.Kind (t.Fs.getD (IntKind.i64.wrap (k - 1)).toNat default).At.Row (t.Fs.getD (IntKind.i64.wrap (k - 1)).toNat default).At.Ag (t.Fs.getD (IntKind.i64.wrap (k - 1)).toNat default).At.Func (t.Fs.getD (IntKind.i64.wrap (k - 1)).toNat default).At.Items (t.Fs.getD (IntKind.i64.wrap (k - 1)).toNat default).At.Op (t.Fs.getD (IntKind.i64.wrap (k - 1)).toNat default).At.Bd) (At.mk (t.Fs.getD k.toNat default).At.Kind (t.Fs.getD k.toNat default).At.Row (t.Fs.getD k.toNat default).At.Ag (t.Fs.getD k.toNat default).At.Func (t.Fs.getD k.toNat default).At.Items (t.Fs.getD k.toNat default).At.Op (t.Fs.getD k.toNat default).At.Bd)) λr2=>.i (decide (r2≥0)) (.k (.inl false)) (.h (a,i,(),(IntKind.i64.wrap (k+1)),()) (t,()))) .d) (.h (a,i,(),(IntKind.i64.wrap (k+1)),()) (t,())))))) .d) (.k (.inr (a,i)))
def zxN (zU:At->Bool×Bool) (x:zxl) (y:Term×Unit):=zmW zU x.1 x.2.1 x.2.2.2.1 y.1
def zya (zU:At->Bool×Bool) (n:Nat) (a:yB) (i:Int) (k:Int) (t:Term):=zB (zxN zU) (.inl default) n (a,i,(),k,()) (t,())
def zUb (r:zME):LTree ty:=.ite (isL r) (.done .ret [.lit (.bool (getL r))] []) (.done (.exit 2) [.sl 107 (getR r).1,.lit (.int .i64 (getR r).2)] [])
def zUW:LL ty zxl:=za (lSl 107) (za zj (za (zdd 372 0) (za zj zl)))
def zpf (zU:At->Bool×Bool) (a:yB) (i:Int):Wy zxe Unit (Bool⊕Unit):=.i (decide (i<Int.ofNat a.length)) (.i (decide (0<=i)&&decide (i<Int.ofNat a.length)) (.i (decide ((a.getD i.toNat default).Cf<1)) (.k (.inl false)) (.i (decide ((a.getD i.toNat default).Cf>1152921504606846976)) (.k (.inl false)) (.i (decide (i>0)) (.i (decide (0<=IntKind.i64.wrap (i - 1))&&decide (IntKind.i64.wrap (i - 1)<Int.ofNat a.length)) (.bn (zti (a.getD (IntKind.i64.wrap (i - 1)).toNat default).Fs (a.getD i.toNat default).Fs) λr9=>.i (decide (r9≥0)) (.k (.inl false)) (.bn (zya zU ((a.length+i.toNat +Int.toNat 0+(a.getD i.toNat default).Fs.length+1)+zd3 a) a i 0 (a.getD i.toNat default)) λr8=>.i (isL r8) (.k (.inl (getL r8))) (.h ((getR r8).1,(IntKind.i64.wrap ((getR r8).2+1)),()) ()))) .d) (.bn (zya zU ((a.length+i.toNat +Int.toNat 0+(a.getD i.toNat default).Fs.length+1)+zd3 a) a i 0 (a.getD i.toNat default)) λr10=>.i (isL r10) (.k (.inl (getL r10))) (.h ((getR r10).1,(IntKind.i64.wrap ((getR r10).2+1)),()) ()))))) .d) (.k (.inr ()))
def zzd (zU:At->Bool×Bool) (x:zxe) (y:Unit):=zpf zU x.1 x.2.1
def zHG (zU:At->Bool×Bool) (n:Nat) (a:yB) (i:Int):=zB (zzd zU) (.inl default) n (a,i,()) ()
def zX6:LL ty zxe:=za (lSl 107) (za zj zl)
def zSu (x:zxl) (y:Term×Unit):Nat:=((x.1.length+Int.toNat x.2.1+Int.toNat x.2.2.2.1+y.1.Fs.length+1)+zd3 x.1)
def zVe (x:zxe) (y:Unit):Nat:=((x.1.length+Int.toNat x.2.1+1)+zd3 x.1)
def zy7 (zU:At->Bool×Bool):=zbX base 93 [(109,zKN),(110,zvT),(111,(zlf zU)),(112,zyA)] [] [(4,(kpL [0,3])),(10,(kpL [0,3,4,5]))] [(4,1,[]),(4,0,(kpL [2])),(10,3,(kpL [0,3])),(10,0,(kpL [2]))] [(10,spW zUW zNy (zxN zU) (.inl default) zUb zSu),(4,spW zX6 z3q (zzd zU) (.inl default) zlC zVe)] []
theorem zUp (zU:At->Bool×Bool):zF (zy7 zU) (lp (body f56) 1):=zn (id:=10) (hl:=rfl)
theorem zUX (zU:At->Bool×Bool):zF (zy7 zU) (lp (body f56) 0):=zn (id:=4) (hl:=rfl)
def zKm (zU:At->Bool×Bool) (a:yB):Wy0 (Bool):=.bn (zBJ a) λr15=>.i (!r15) (.k false) (.bn (zHG zU ((a.length+Int.toNat 0+1)+zd3 a) a 0) λr14=>.i (isL r14) (.k (getL r14)) (.k true))
def zut (zU:At->Bool×Bool) (a:yB):=(zKm zU a).fin default
theorem zRG (zU:At->Bool×Bool) (zQU:SdP 111 (zlf zU)):SdP 56 (zhc (zut zU)):=
 sT (cx':=(zy7 zU)) (zi ⟨zX9,zFa,zQU,zJu,trivial⟩) call56 func56 (lOK (aC (zUX zU) (aC (zUp zU) aN)))
def z23:=zbu base 9 [(76,zDM)]
def zTZ (a:yB) (b:yB):Wy0 (Bool):=.bn (zFy a b) λr0=>.k (r0==0)
def zrg (a:yB) (b:yB):=(zTZ a b).fin default
def zAJ:=zh zOr λx=>((zrg x.1 x.2.1).1,zQK (zrg x.1 x.2.1).2)
theorem zIV:SdP 33 zAJ:=
 sT (cx':=z23) (zi ⟨zRm,trivial⟩) call33 func33 (lOK aN)
def z0h:=zbu base 42 []
def zNu (a:yB):Wy0 (Bool):=.i (Int.ofNat a.length==1) (.i (decide ((0:Int)<=(0:Int))&&decide (0<Int.ofNat a.length)) (.i ((a.getD (Int.toNat 0) default).Cf==1) (.i (decide ((0:Int)<=(0:Int))&&decide (0<Int.ofNat a.length)) (.i (Int.ofNat (a.getD (Int.toNat 0) default).Fs.length==1) (.i (decide ((0:Int)<=(0:Int))&&decide (0<Int.ofNat a.length)) (.i (decide ((0:Int)<=(0:Int))&&decide (0<Int.ofNat (a.getD (Int.toNat 0) default).Fs.length)) (.i (decide (((a.getD (Int.toNat 0) default).Fs.getD (Int.toNat 0) default).At.Kind≥2)) (.i (decide ((0:Int)<=(0:Int))&&decide (0<Int.ofNat a.length)) (.i (decide ((0:Int)<=(0:Int))&&decide (0<Int.ofNat (a.getD (Int.toNat 0) default).Fs.length)) (.k (((a.getD (Int.toNat 0) default).Fs.getD (Int.toNat 0) default).Exp==1)) .d) .d) (.k false)) .d) .d) (.k false)) .d) (.k false)) .d) (.k false)
def zsx (a:yB):=(zNu a).fin default
def zGl:=zh zSC λx=>((zsx x.1).1,zQK (zsx x.1).2)
theorem zUt:SdP 186 zGl:=
 sT (cx':=z0h) (zi trivial) call186 func186 (lOK aN)
abbrev zx3:=yB×Int×Unit
def zng (a:yB) (i:Int):Wy zx3 Unit (Bool⊕Unit):=.i (decide (i<Int.ofNat a.length)) (.i (decide (0<=i)&&decide (i<Int.ofNat a.length)) (.i (Int.ofNat (a.getD i.toNat default).Fs.length==0) (.k (.inl true)) (.h (a,(IntKind.i64.wrap (i+1)),()) ())) .d) (.k (.inr ()))
def zx0 (x:zx3) (y:Unit):=zng x.1 x.2.1
def zGj (n:Nat) (a:yB) (i:Int):=zB (zx0) (.inl default) n (a,i,()) ()
def zVz:LL ty zx3:=za (lSl 107) (za zj zl)
def zGo:=zbX base 17 [] [] [(2,(kpL [0,3]))] [(2,1,[]),(2,0,(kpL [2]))] [(2,spW zVz z3q (zx0) (.inl default) zlC λx y=>(x.1.length+Int.toNat x.2.1+1))] []
theorem zUg:zF zGo (lp (body f185) 0):=zn (id:=2) (hl:=rfl)
def zIH (a:yB):Wy0 (Bool):=.bn (zGj (a.length+Int.toNat 0+1) a 0) λr0=>.i (isL r0) (.k (getL r0)) (.k false)
def zkO (a:yB):=(zIH a).fin default
def zCa:=zh zSC λx=>((zkO x.1).1,zQK (zkO x.1).2)
theorem zOG:SdP 185 zCa:=
 sT (cx':=zGo) (zi trivial) call185 func185 (lOK (aC zUg aN))
def z0A:=zbu base 36 []
def zQC (v:Value):Wy0 (Bool):=.i (v.Kind==0) (.k (v.Text.toList==(ByteArray.mk #[]).toList)) (.i (v.Kind==1) (.i (v.Int==0) (.k (decide (Int.ofNat v.Text.size<=255))) (.k false)) (.i (v.Kind==2) (.i (v.Text.toList==(ByteArray.mk #[]).toList) (.i (v.Int==0) (.k true) (.k (v.Int==1))) (.k false)) (.k false)))
def zoe (v:Value):=(zQC v).fin default
def ztN:=zh z2W λx=>((zoe x.1).1,zQK (zoe x.1).2)
theorem zxW:SdP 108 ztN:=
 sT (cx':=z0A) (zi trivial) call108 func108 (lOK aN)
abbrev zw4:=Int×yD×Unit×Int×Unit
def zsa (fn:Int) (items:yD) (i:Int) (bound:Value):Wy zw4 (Value×Unit) (Bool⊕Unit):=.i (decide (i<Int.ofNat items.length)) (.i (decide (0<=i)&&decide (i<Int.ofNat items.length)) (.bn (zoe (items.getD i.toNat default).Value) λr0=>.i (!r0) (.k (.inl false)) (.i ((items.getD i.toNat default).Value.Kind != bound.Kind) (.k (.inl false)) (.i (fn==0) (.i ((items.getD i.toNat default).Value.Int != 1) (.k (.inl false)) (.h (fn,items,(),(IntKind.i64.wrap (i+1)),()) (bound,()))) (.h (fn,items,(),(IntKind.i64.wrap (i+1)),()) (bound,()))))) .d) (.k (.inr ()))
def zCQ (x:zw4) (y:Value×Unit):=zsa x.1 x.2.1 x.2.2.2.1 y.1
def zDd (n:Nat) (fn:Int) (items:yD) (i:Int) (bound:Value):=zB (zCQ) (.inl default) n (fn,items,(),i,()) (bound,())
def z0T:LL ty zw4:=za zj (za (lSl 169) (za (zdd 276 0) (za zj zl)))
def z1x:BL ty (Value×Unit):=zeq (zdO (λx=>(⟨x.1,x.2.1,x.2.2.1⟩:Value)) (λx=>(x.Kind,x.Int,x.Text,())) (λ_=>rfl) (za (zO .i64) (za (zO .i64) (za zjj zl)))) false (zbb)
def zZD (x:zw4) (y:Value×Unit):Nat:=(Int.toNat x.1+x.2.1.length+Int.toNat x.2.2.2.1+1)
def zNW:=zbX base 69 [(108,ztN)] [] [(4,(kpL [0,1,7,9]))] [(4,1,[]),(4,0,(kpL [8]))] [(4,spW z0T z1x (zCQ) (.inl default) zlC zZD)] []
theorem zZj:zF zNW (lp (body f187) 0):=zn (id:=4) (hl:=rfl)
def zQr (fn:Int) (items:yD) (op:Int) (bound:Value):Wy0 (Bool):=.i (decide (fn<0)) (.k false) (.i (decide (fn>3)) (.k false) (.i (decide (op<5)) (.k false) (.i (decide (op>10)) (.k false) (.bn (zoe bound) λr4=>.i (!r4) (.k false) (.i (decide (fn<=1)) (.i (bound.Kind != 0) (.k false) (.bn (zDd (fn.toNat +items.length+Int.toNat 0+1) fn items 0 bound) λr2=>.i (isL r2) (.k (getL r2)) (.k true))) (.bn (zDd (fn.toNat +items.length+Int.toNat 0+1) fn items 0 bound) λr3=>.i (isL r3) (.k (getL r3)) (.k true)))))))
def zyb (fn:Int) (items:yD) (op:Int) (bound:Value):=(zQr fn items op bound).fin default
def zIz:=zh zOY λx=>((zyb x.1 x.2.1 x.2.2.1 x.2.2.2.1).1,zQK (zyb x.1 x.2.1 x.2.2.1 x.2.2.2.1).2)
theorem zVH:SdP 187 zIz:=
 sT (cx':=zNW) (zi ⟨zxW,trivial⟩) call187 func187 (lOK (aC zZj aN))
def z1c:=zbu base 23 []
def zQx (x_:At):Wy0 (Bool):=.i (x_.Func==0) (.i (Int.ofNat x_.Items.length==0) (.i (x_.Op==0) (.k (x_.Bd.Kind==0&&(x_.Bd.Int==0&&(x_.Bd.Text.toList==(ByteArray.mk #[]).toList&&true)))) (.k false)) (.k false)) (.k false)
def zoa (x_:At):=(zQx x_).fin default
def zIt:=zh z36 λx=>((zoa x.1).1,zQK (zoa x.1).2)
theorem zUV:SdP 184 zIt:=
 sT (cx':=z1c) (zi trivial) call184 func184 (lOK aN)
abbrev zfj:=Unit×Int×Unit
def zjz (zbk:yB->Bool×Bool) (i:Int) (x_:At):Wy zfj (At×Unit) (Bool⊕At):=.i (decide (i<Int.ofNat x_.Ag.length)) (.i (decide (0<=i)&&decide (i<Int.ofNat x_.Ag.length)) (.i (Int.ofNat (List.length (x_.Ag.getD i.toNat default))==0) (.k (.inl false)) (.i (decide (0<=i)&&decide (i<Int.ofNat x_.Ag.length)) (.bn (zbk (x_.Ag.getD i.toNat default)) λr0=>.i (!r0) (.k (.inl false)) (.h ((),(IntKind.i64.wrap (i+1)),()) (x_,()))) .d)) .d) (.k (.inr x_))
def ztM (zbk:yB->Bool×Bool) (x:zfj) (y:At×Unit):=zjz zbk x.2.1 y.1
def ztJ (zbk:yB->Bool×Bool) (n:Nat) (i:Int) (x_:At):=zB (ztM zbk) (.inl default) n ((),i,()) (x_,())
def zNs (r:Bool⊕At):LTree ty:=.ite (isL r) (.done .ret [.lit (.bool (getL r))] []) (.done (.exit 0) [.ptr 824 0] [.box (base.enc 143 (getR r)) false])
def zOI:LL ty zfj:=za (zdd 824 0) (za zj zl)
def ziR (zbk:yB->Bool×Bool) (i:Int) (x_:At):Wy zfj (At×Unit) (Bool⊕Unit):=.i (decide (i<Int.ofNat x_.Items.length)) (.i (decide (0<=i)&&decide (i<Int.ofNat x_.Items.length)) (.i (Int.ofNat (x_.Items.getD i.toNat default).Ann.length==0) (.k (.inl false)) (.i (decide (0<=i)&&decide (i<Int.ofNat x_.Items.length)) (.bn (zbk (x_.Items.getD i.toNat default).Ann) λr3=>.i (!r3) (.k (.inl false)) (.i (decide (i>0)) (.i (decide (0<=IntKind.i64.wrap (i - 1))&&decide (IntKind.i64.wrap (i - 1)<=i)&&decide (i<=Int.ofNat x_.Items.length)) (.i (decide (0<=i)&&decide (i<=IntKind.i64.wrap (i+1))&&decide (IntKind.i64.wrap (i+1)<=Int.ofNat x_.Items.length)) (.bn (zwz (List.take (i.toNat - (IntKind.i64.wrap (i - 1)).toNat) (List.drop (IntKind.i64.wrap (i - 1)).toNat x_.Items)) (List.take ((IntKind.i64.wrap (i+1)).toNat - i.toNat) (List.drop i.toNat x_.Items))) λr2=>.i (decide (r2>0)) (.k (.inl false)) (.h ((),(IntKind.i64.wrap (i+1)),()) (x_,()))) .d) .d) (.h ((),(IntKind.i64.wrap (i+1)),()) (x_,())))) .d)) .d) (.k (.inr ()))
def zsp (zbk:yB->Bool×Bool) (x:zfj) (y:At×Unit):=ziR zbk x.2.1 y.1
def zz7 (zbk:yB->Bool×Bool) (n:Nat) (i:Int) (x_:At):=zB (zsp zbk) (.inl default) n ((),i,()) (x_,())
def zLD (r:Bool⊕Unit):LTree ty:=.ite (isL r) (.done .ret [.lit (.bool (getL r))] []) (.done (.exit 3) [] [])
def zMw (x:zfj) (y:At×Unit):Nat:=(Int.toNat x.2.1+y.1.Ag.length+y.1.Items.length+1)
def ztE (zbk:yB->Bool×Bool):=zbX base 206 [(33,zAJ),(56,(zhc zbk)),(184,zIt),(185,zCa),(186,zGl),(187,zIz),(188,zxC)] [] [(6,(kpL [1,3])),(21,(kpL [1,4]))] [(6,1,(kpL [1])),(6,0,(kpL [2])),(21,4,[]),(21,0,(kpL [2]))] [(6,spW zOI zTu (ztM zbk) (.inl default) zNs zMw),(21,spW zOI zTu (zsp zbk) (.inl default) zLD zMw)] []
theorem zM4 (zbk:yB->Bool×Bool):zF (ztE zbk) (lp (body f111) 0):=zn (id:=6) (hl:=rfl)
theorem zLj (zbk:yB->Bool×Bool):zF (ztE zbk) (lp (body f111) 1):=zn (id:=21) (hl:=rfl)
def zCs (zbk:yB->Bool×Bool) (x_:At):Wy0 (Bool):=.i (x_.Kind==0) (.i (decide (x_.Row.Table≥1)) (.i (decide (x_.Row.Seq≥1)) (.i (Int.ofNat x_.Ag.length==0) (.bn (zoa (At.mk x_.Kind x_.Row x_.Ag x_.Func x_.Items x_.Op x_.Bd)) λr6=>.k r6) (.k false)) (.k false)) (.k false)) (.i (!(x_.Row.Table==0&&(x_.Row.Seq==0&&true))) (.k false) (.bn (ztJ zbk (Int.toNat 0+x_.Ag.length+x_.Items.length+1) 0 (At.mk x_.Kind x_.Row x_.Ag x_.Func x_.Items x_.Op x_.Bd)) λr17=>.i (isL r17) (.k (getL r17)) (.i ((getR r17).Kind==1) (.i (Int.ofNat (getR r17).Ag.length==2) (.bn (zoa (At.mk (getR r17).Kind (getR r17).Row (getR r17).Ag (getR r17).Func (getR r17).Items (getR r17).Op (getR r17).Bd)) λr8=>.i (r8) (.i (decide ((0:Int)<=(0:Int))&&decide (0<Int.ofNat (getR r17).Ag.length)) (.i (decide ((0:Int)<=(1:Int))&&decide (1<Int.ofNat (getR r17).Ag.length)) (.bn (zrg ((getR r17).Ag.getD (Int.toNat 0) default) ((getR r17).Ag.getD (Int.toNat 1) default)) λr7=>.k (!r7)) .d) .d) (.k false)) (.k false)) (.i ((getR r17).Kind==2) (.i (Int.ofNat (getR r17).Ag.length==1) (.bn (zoa (At.mk (getR r17).Kind (getR r17).Row (getR r17).Ag (getR r17).Func (getR r17).Items (getR r17).Op (getR r17).Bd)) λr12=>.i (r12) (.i (decide ((0:Int)<=(0:Int))&&decide (0<Int.ofNat (getR r17).Ag.length)) (.i (Int.ofNat (List.length ((getR r17).Ag.getD (Int.toNat 0) default))==1) (.i (decide ((0:Int)<=(0:Int))&&decide (0<Int.ofNat (getR r17).Ag.length)) (.bn (zkO ((getR r17).Ag.getD (Int.toNat 0) default)) λr10=>.i (!r10) (.i (decide ((0:Int)<=(0:Int))&&decide (0<Int.ofNat (getR r17).Ag.length)) (.bn (zsx ((getR r17).Ag.getD (Int.toNat 0) default)) λr9=>.k (!r9)) .d) (.k false)) .d) (.i (decide ((0:Int)<=(0:Int))&&decide (0<Int.ofNat (getR r17).Ag.length)) (.bn (zsx ((getR r17).Ag.getD (Int.toNat 0) default)) λr11=>.k (!r11)) .d)) .d) (.k false)) (.k false)) (.i ((getR r17).Kind==3) (.i (Int.ofNat (getR r17).Ag.length==1) (.bn (zoa (At.mk (getR r17).Kind (getR r17).Row (getR r17).Ag (getR r17).Func (getR r17).Items (getR r17).Op (getR r17).Bd)) λr14=>.i (r14) (.i (decide ((0:Int)<=(0:Int))&&decide (0<Int.ofNat (getR r17).Ag.length)) (.bn (zkO ((getR r17).Ag.getD (Int.toNat 0) default)) λr13=>.k (!r13)) .d) (.k false)) (.k false)) (.i ((getR r17).Kind==4) (.i (Int.ofNat (getR r17).Ag.length != 0) (.k false) (.i (Int.ofNat (getR r17).Items.length==0) (.k false) (.i (decide (Int.ofNat (getR r17).Items.length>1024)) (.k false) (.bn (zyb (getR r17).Func (getR r17).Items (getR r17).Op (getR r17).Bd) λr16=>.i (!r16) (.k false) (.bn (zz7 zbk (Int.toNat 0+(getR r17).Ag.length+(getR r17).Items.length+1) 0 (At.mk (getR r17).Kind (getR r17).Row (getR r17).Ag (getR r17).Func (getR r17).Items (getR r17).Op (getR r17).Bd)) λr15=>.i (isL r15) (.k (getL r15)) (.k true)))))) (.k false)))))))
def zm8 (zbk:yB->Bool×Bool) (x_:At):=(zCs zbk x_).fin default
theorem zJB (zbk:yB->Bool×Bool) (zYA:SdP 56 (zhc zbk)):SdP 111 (zlf (zm8 zbk)):=
 sT (cx':=(ztE zbk)) (zi ⟨zIV,zYA,zUV,zOG,zUt,zVH,zH0,trivial⟩) call111 func111 (lOK (aC (zM4 zbk) (aC (zLj zbk) aN)))
def zGz:Nat->(yB->Bool×Bool)×(At->Bool×Bool)
 | 0=>(λ_=>(false,default),λ_=>(false,default))
 | n+1=>(zut ((zGz n).2),zm8 ((zGz n).1))
def zuA (n:Nat):yB->Bool×Bool:=(zGz n).1
def zrV (n:Nat):At->Bool×Bool:=(zGz n).2
theorem zXU (n:Nat):zuA (n+1)=zut (zrV n):=rfl
theorem zPw (n:Nat):zrV (n+1)=zm8 (zuA n):=rfl
theorem zSa:∀ n,SdP 56 (zhc (zuA n))/\SdP 111 (zlf (zrV n))
 | 0=>⟨z8 call56 (λ_=>rfl),z8 call111 (λ_=>rfl)⟩
 | n+1=>by
  have ih:=zSa n;exact ⟨zRG _ (ih.2),zJB _ (ih.1)⟩
def zyr:yB->Bool×Bool:=zuA 1000
def zzp:Ab.Spec ty:=zhc zyr
theorem zF1:SdP 56 zzp:=(zSa 1000).1
def zwc (F:yB->Bool×ByteArray):Ab.Spec ty:=zh zSC λx=>((F x.1).1,zQT (F x.1).2)
def ztn (F:At->Bool×ByteArray):Ab.Spec ty:=zh z36 λx=>((F x.1).1,zQT (F x.1).2)
def z1J:AL base (Int×Unit):=zd (zg (zfB .u64)) zq
def zr7 (F:Int->Bool×ByteArray):Ab.Spec ty:=zh z1J λx=>((F x.1).1,zQT (F x.1).2)
def zV1 (zhG:Int->Bool×ByteArray):=zbu base 20 [(217,(zr7 zhG))]
def zHz (zhG:Int->Bool×ByteArray) (n_:Int):Wy0 (ByteArray):=.i (decide (n_<10)) (.k (List.foldl (λr n=>r.push (UInt8.ofNat n.toNat)) ByteArray.empty [IntKind.u8.wrap (IntKind.u64.wrap (48+n_))])) (.bn (zhG (IntKind.u64.wrap (n_.tdiv 10))) λr0=>.i (decide (r0.size+(List.foldl (λr n=>r.push (UInt8.ofNat n.toNat)) ByteArray.empty [IntKind.u8.wrap (IntKind.u64.wrap (48+n_.tmod 10))]).size<=9223372036854775807)) (.k (r0++List.foldl (λr n=>r.push (UInt8.ofNat n.toNat)) ByteArray.empty [IntKind.u8.wrap (IntKind.u64.wrap (48+n_.tmod 10))])) .d)
def zxc (zhG:Int->Bool×ByteArray) (n_:Int):=(zHz zhG n_).fin default
theorem zPR (zhG:Int->Bool×ByteArray) (zWZ:SdP 217 (zr7 zhG)):SdP 217 (zr7 (zxc zhG)):=
 sT (cx':=(zV1 zhG)) (zi ⟨zWZ,trivial⟩) call217 func217 (lOK aN)
def z0p:Nat->(Int->Bool×ByteArray)
 | 0=>λ_=>(false,default)
 | n+1=>zxc (z0p n)
def zoE (n:Nat):Int->Bool×ByteArray:=z0p n
theorem zVQ (n:Nat):zoE (n+1)=zxc (zoE n):=rfl
theorem zTm:∀ n,SdP 217 (zr7 (zoE n))
 | 0=>z8 call217 (λ_=>rfl)
 | n+1=>by
  have ih:=zTm n;exact zPR _ (ih)
def zAT:Int->Bool×ByteArray:=zoE 1000
def zGi:Ab.Spec ty:=zr7 zAT
theorem zSW:SdP 217 zGi:=(zTm 1000)
def zX2:=zbu base 13 [(217,zGi)]
def zKD (n_:Int):Wy0 (ByteArray):=.i (decide (n_<0)) (.bn (zAT (IntKind.u64.wrap (0 - IntKind.u64.wrap n_))) λr0=>.i (decide ((ByteArray.mk #[(45:UInt8)]).size+r0.size<=9223372036854775807)) (.k (ByteArray.mk #[(45:UInt8)]++r0)) .d) (.bn (zAT (IntKind.u64.wrap n_)) λr1=>.k r1)
def zd8 (n_:Int):=(zKD n_).fin default
def zqJ:=zh zVL λx=>((zd8 x.1).1,zQT (zd8 x.1).2)
theorem zvb:SdP 155 zqJ:=
 sT (cx':=zX2) (zi ⟨zSW,trivial⟩) call155 func155 (lOK aN)
abbrev zA1:=Unit×ByteArray×Int×Unit
def zzl (s:ByteArray) (i:Int) (v:Value):Wy zA1 (Value×Unit) (ByteArray):=.i (decide (i<Int.ofNat v.Text.size)) (.i (decide (0<=i)&&decide (i<=IntKind.i64.wrap (i+1))&&decide (IntKind.i64.wrap (i+1)<=Int.ofNat v.Text.size)) (.i (decide (s.size+(v.Text.extract i.toNat (IntKind.i64.wrap (i+1)).toNat).size<=9223372036854775807)) (.i (decide (0<=i)&&decide (i<Int.ofNat v.Text.size)) (.i (zMs v.Text i==39) (.i (decide ((s++v.Text.extract i.toNat (IntKind.i64.wrap (i+1)).toNat).size+(ByteArray.mk #[(39:UInt8)]).size<=9223372036854775807)) (.h ((),(s++v.Text.extract i.toNat (IntKind.i64.wrap (i+1)).toNat++ByteArray.mk #[(39:UInt8)]),(IntKind.i64.wrap (i+1)),()) (v,())) .d) (.h ((),(s++v.Text.extract i.toNat (IntKind.i64.wrap (i+1)).toNat),(IntKind.i64.wrap (i+1)),()) (v,()))) .d) .d) .d) (.k s)
def zy2 (x:zA1) (y:Value×Unit):=zzl x.2.1 x.2.2.1 y.1
def zyZ (n:Nat) (s:ByteArray) (i:Int) (v:Value):=zB (zy2) default n ((),s,i,()) (v,())
def zVw (r:ByteArray):LTree ty:=.done (.exit 0) [.lit (.string r)] []
def zWW:LL ty zA1:=za (zdd 176 0) (za zjj (za zj zl))
def zKR:=zbX base 44 [(108,ztN),(155,zqJ)] [] [(11,(kpL [1,3,4]))] [(11,1,(kpL [3]))] [(11,spW zWW z1x (zy2) default zVw λx y=>(x.2.1.size+Int.toNat x.2.2.1+1000))] []
theorem zV2:zF zKR (lp (body f96) 0):=zn (id:=11) (hl:=rfl)
def zMA (v:Value):Wy0 (ByteArray):=.bn (zoe v) λr2=>.i (!r2) (.k (ByteArray.mk #[])) (.i (v.Kind==0) (.bn (zd8 v.Int) λr0=>.k r0) (.i (v.Kind==2) (.i (v.Int==1) (.k (ByteArray.mk #[(84:UInt8),(82:UInt8),(85:UInt8),(69:UInt8)])) (.k (ByteArray.mk #[(70:UInt8),(65:UInt8),(76:UInt8),(83:UInt8),(69:UInt8)]))) (.bn (zyZ ((ByteArray.mk #[(39:UInt8)]).size+Int.toNat 0+1000) (ByteArray.mk #[(39:UInt8)]) 0 v) λr1=>.i (decide (r1.size+(ByteArray.mk #[(39:UInt8)]).size<=9223372036854775807)) (.k (r1++ByteArray.mk #[(39:UInt8)])) .d)))
def zjG (v:Value):=(zMA v).fin default
def zx8:=zh z2W λx=>((zjG x.1).1,zQT (zjG x.1).2)
theorem zD3:SdP 96 zx8:=
 sT (cx':=zKR) (zi ⟨zxW,zvb,trivial⟩) call96 func96 (lOK (aC zV2 aN))
end Go.Proofs.YtoknknbmfmddbaaGreatDoor
end
