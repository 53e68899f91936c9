/- Texts of this claim, joined (the program, its functions in plain words, and what they compute). -/
import Derived.Test.YtoknknbmfmddbaaGreatDoorGC5
set_option autoImplicit false
set_option linter.unusedVariables false
set_option linter.unusedSectionVars false
set_option linter.unusedSimpArgs false
set_option maxRecDepth 1000000
set_option maxHeartbeats 0
noncomputable section
namespace Go.Proofs.YtoknknbmfmddbaaGreatDoor
open Go Go.Ab
open Go.Proofs.Tryz
abbrev zCK:=yF×Unit×Int×Unit
abbrev zVA:=yF×Int×Row
def zxs (l:yF) (i:Int) (x_:Row):Wy zCK (Row×Unit) zVA:=.i (decide (i<Int.ofNat l.length)) (.i (decide (0<=i)&&decide (i<Int.ofNat l.length)) (.bn (zkM (l.getD i.toNat default).Values x_.Values) λr0=>.i (decide (r0<0)) (.h (l,(),(IntKind.i64.wrap (i+1)),()) (x_,())) (.k (l,i,x_))) .d) (.k (l,i,x_))
def zIP (x:zCK) (y:Row×Unit):=zxs x.1 x.2.2.1 y.1
def zTw (n:Nat) (l:yF) (i:Int) (x_:Row):=zA (zIP) default n (l,(),i,()) (x_,())
def z5j (r:zVA):LTree ty:=.done (.exit 0) [.sl 54 r.1,.ptr 320 0,.lit (.int .i64 r.2.1)] [.box (base.enc 54 r.2.2) false]
def z6h:LL ty zCK:=za (lSl 54) (za (zdH 320 0) (za zj zm))
def z6U:BL ty (Row×Unit):=zfj (zgi (λx=>(⟨x.1,x.2.1⟩:Row)) (λx=>(x.Values,x.Ann,())) (λ_=>rfl) (za (lSl 79) (za (lSl 107) zm))) false (zbg)
def z5l (x:zCK) (y:Row×Unit):Nat:=(x.1.length+Int.toNat x.2.2.1+y.1.Values.length+y.1.Ann.length+1)
def zTV:=zb1 base 80 [(31,zCC),(57,zsM),(127,zOj)] [] [(2,(kpL [0,3,6]))] [(2,1,(kpL [0,3,6]))] [(2,spW z6h z6U (zIP) default z5j z5l)] []
theorem z4J:zJ zTV (lp (body f73) 0):=zq (id:=2) (hl:=rfl)
def zX5 (l:yF) (x_:Row):Wy0 (yF×Bool):=.bn (zTw (l.length+Int.toNat 0+x_.Values.length+x_.Ann.length+1) l 0 x_) λr4=>.i (decide ((0:Int)<=(0:Int))&&decide (0<=r4.2.1)&&decide (r4.2.1<=Int.ofNat r4.1.length)) (.i (decide ((0+(List.take (r4.2.1.toNat - Int.toNat 0) (List.drop (Int.toNat 0) r4.1)).length)*48<=zF)) (.i (decide (r4.2.1<Int.ofNat r4.1.length)) (.i (decide (0<=r4.2.1)&&decide (r4.2.1<Int.ofNat r4.1.length)) (.bn (zys (r4.1.getD r4.2.1.toNat default).Values r4.2.2.Values) λr3=>.i (r3) (.i (decide (0<=r4.2.1)&&decide (r4.2.1<Int.ofNat r4.1.length)) (.bn (zx5 (r4.1.getD r4.2.1.toNat default).Ann r4.2.2.Ann) λr2=>.i (decide ((([]++List.take (r4.2.1.toNat - Int.toNat 0) (List.drop (Int.toNat 0) r4.1)).length+[Row.mk r4.2.2.Values r2.1].length)*48<=zF)) (.i (decide (0<=IntKind.i64.wrap (r4.2.1+1))&&decide (IntKind.i64.wrap (r4.2.1+1)<=Int.ofNat r4.1.length)&&decide (Int.ofNat r4.1.length<=Int.ofNat r4.1.length)) (.i (decide ((([]++List.take (r4.2.1.toNat - Int.toNat 0) (List.drop (Int.toNat 0) r4.1)++[Row.mk r4.2.2.Values r2.1]).length+(List.take ((Int.ofNat r4.1.length).toNat - (IntKind.i64.wrap (r4.2.1+1)).toNat) (List.drop (IntKind.i64.wrap (r4.2.1+1)).toNat r4.1)).length)*48<=zF)) (.k ([]++List.take (r4.2.1.toNat - Int.toNat 0) (List.drop (Int.toNat 0) r4.1)++[Row.mk r4.2.2.Values r2.1]++List.take ((Int.ofNat r4.1.length).toNat - (IntKind.i64.wrap (r4.2.1+1)).toNat) (List.drop (IntKind.i64.wrap (r4.2.1+1)).toNat r4.1),r2.2==0)) .d) .d) .d) .d) (.i (decide ((([]++List.take (r4.2.1.toNat - Int.toNat 0) (List.drop (Int.toNat 0) r4.1)).length+[r4.2.2].length)*48<=zF)) (.i (decide (0<=r4.2.1)&&decide (r4.2.1<=Int.ofNat r4.1.length)&&decide (Int.ofNat r4.1.length<=Int.ofNat r4.1.length)) (.i (decide ((([]++List.take (r4.2.1.toNat - Int.toNat 0) (List.drop (Int.toNat 0) r4.1)++[r4.2.2]).length+(List.take ((Int.ofNat r4.1.length).toNat - r4.2.1.toNat) (List.drop r4.2.1.toNat r4.1)).length)*48<=zF)) (.k ([]++List.take (r4.2.1.toNat - Int.toNat 0) (List.drop (Int.toNat 0) r4.1)++[r4.2.2]++List.take ((Int.ofNat r4.1.length).toNat - r4.2.1.toNat) (List.drop r4.2.1.toNat r4.1),true)) .d) .d) .d)) .d) (.i (decide ((([]++List.take (r4.2.1.toNat - Int.toNat 0) (List.drop (Int.toNat 0) r4.1)).length+[r4.2.2].length)*48<=zF)) (.i (decide (0<=r4.2.1)&&decide (r4.2.1<=Int.ofNat r4.1.length)&&decide (Int.ofNat r4.1.length<=Int.ofNat r4.1.length)) (.i (decide ((([]++List.take (r4.2.1.toNat - Int.toNat 0) (List.drop (Int.toNat 0) r4.1)++[r4.2.2]).length+(List.take ((Int.ofNat r4.1.length).toNat - r4.2.1.toNat) (List.drop r4.2.1.toNat r4.1)).length)*48<=zF)) (.k ([]++List.take (r4.2.1.toNat - Int.toNat 0) (List.drop (Int.toNat 0) r4.1)++[r4.2.2]++List.take ((Int.ofNat r4.1.length).toNat - r4.2.1.toNat) (List.drop r4.2.1.toNat r4.1),true)) .d) .d) .d)) .d) .d
def zE5 (l:yF) (x_:Row):=(zX5 l x_).fin default
def z4O (r:yF×Bool):ARes ty:=⟨[.own 54 r.1,.pure (.lit (.bool r.2))],[]⟩
def z8w:AL base (yF×Row×Unit):=zd (ze (vSl 54)) (zd (ze (zcd 54)) zt)
def zNn:=zh z8w λx=>((zE5 x.1 x.2.1).1,z4O (zE5 x.1 x.2.1).2)
theorem z0w:SdP 73 zNn:=
 sT (cx':=zTV) (zi ⟨zIn,zyS,z1N,trivial⟩) call73 func73 (lOK (aC z4J aN)) (sg:=⟨[.own 54,.pure],[]⟩)
abbrev zr9:=Unit×Unit×Int×Unit
abbrev zrQ:=Relation×(Unit×Unit×Unit)×Unit
abbrev zEN:=Int⊕Relation
abbrev zrD:=Unit×Unit×Unit×Int×Unit
abbrev zrH:=Relation×(Unit×Unit×Unit)×yF×Unit
abbrev zFz:=Int⊕(Relation×yF)
def zxO (i:Int) (r:Relation):Wy zr9 zrQ zEN:=.i (decide (i<Int.ofNat r.Rows.length)) (.i (decide (0<=i)&&decide (i<Int.ofNat r.Rows.length)) (.bn (zB8 r.Columns (r.Rows.getD i.toNat default).Values) λr1=>.i (!r1) (.k (.inl 7)) (.i (decide (0<=i)&&decide (i<Int.ofNat r.Rows.length)) (.bn (zgr (r.Rows.getD i.toNat default).Ann) λr0=>.i (!r0) (.k (.inl 1)) (.h ((),(),(IntKind.i64.wrap (i+1)),()) (r,((),(),()),()))) .d)) .d) (.k (.inr r))
def zxk (x:zr9) (y:zrQ):=zxO x.2.2.1 y.1
def zFI (n:Nat) (i:Int) (r:Relation):=zA (zxk) (.inl default) n ((),(),i,()) (r,((),(),()),())
def zSn (r:zEN):LTree ty:=.ite (isL r) (.done .ret [.ptr 316 0,.lit (.int .i64 (getL r))] [.box ([.lit (.slice none 0 0),.lit (.slice none 0 0)]) false]) (.done (.exit 0) [.ptr 316 0,.ptr 317 0] [.box (base.enc 25 (getR r)) false,.box ([.lit (.slice none 0 0),.lit (.slice none 0 0)]) false])
def zUV:LL ty zr9:=za (zdH 316 0) (za (zdH 317 0) (za zj zm))
def zVH:BL ty zrQ:=zfj (zgi (λx=>(⟨x.1,x.2.1⟩:Relation)) (λx=>(x.Columns,x.Rows,())) (λ_=>rfl) (za (lSl 75) (za (lSl 54) zm))) false (zfj (za zzi (za zzi zm)) false (zbg))
def zwL (i:Int) (r:Relation) (out_:yF):Wy zrD zrH zFz:=.i (decide (i<Int.ofNat r.Rows.length)) (.i (decide (0<=i)&&decide (i<Int.ofNat r.Rows.length)) (.i (Int.ofNat (r.Rows.getD i.toNat default).Ann.length==0) (.h ((),(),(),(IntKind.i64.wrap (i+1)),()) (r,((),(),()),out_,())) (.i (decide (0<=i)&&decide (i<Int.ofNat r.Rows.length)) (.bn (zE5 out_ (r.Rows.getD i.toNat default)) λr4=>.i (!r4.2) (.k (.inl 6)) (.h ((),(),(),(IntKind.i64.wrap (i+1)),()) (r,((),(),()),(r4.1),()))) .d)) .d) (.k (.inr (r,out_)))
def zwu (x:zrD) (y:zrH):=zwL x.2.2.2.1 y.1 y.2.2.1
def zDm (n:Nat) (i:Int) (r:Relation) (out_:yF):=zA (zwu) (.inl default) n ((),(),(),i,()) (r,((),(),()),out_,())
def zQw (r:zFz):LTree ty:=.ite (isL r) (.done .ret [.ptr 316 0,.lit (.int .i64 (getL r))] [.box ([.lit (.slice none 0 0),.lit (.slice none 0 0)]) false]) (.done (.exit 2) [.ptr 316 0,.ptr 317 0,.own 318] [.box (base.enc 25 (getR r).1) false,.box ([.lit (.slice none 0 0),.lit (.slice none 0 0)]) false,.arr 54 (getR r).2 false])
def zSV:LL ty zrD:=za (zdH 316 0) (za (zdH 317 0) (za (zfb 318) (za zj zm)))
def zS7:BL ty zrH:=zfj (zgi (λx=>(⟨x.1,x.2.1⟩:Relation)) (λx=>(x.Columns,x.Rows,())) (λ_=>rfl) (za (lSl 75) (za (lSl 54) zm))) false (zfj (za zzi (za zzi zm)) false (zfl 54 false (zbg)))
def zR0 (x:zr9) (y:zrQ):Nat:=(Int.toNat x.2.2.1+y.1.Columns.length+y.1.Rows.length+1)
def zQt (x:zrD) (y:zrH):Nat:=(Int.toNat x.2.2.2.1+y.1.Columns.length+y.1.Rows.length+y.2.2.1.length+1)
def zxI:=zb1 base 79 [(54,zFO),(55,zLl),(56,zAg),(73,zNn)] [] [(4,(kpL [1,2,4])),(12,(kpL [1,2,5,6]))] [(4,1,(kpL [1,2])),(4,0,(kpL [2,3])),(12,3,(kpL [1,2,5])),(12,0,(kpL [2,3]))] [(4,spW zUV zVH (zxk) (.inl default) zSn zR0),(12,spW zSV zS7 (zwu) (.inl default) zQw zQt)] []
theorem zR5:zJ zxI (lp (body f29) 0):=zq (id:=4) (hl:=rfl)
theorem zRe:zJ zxI (lp (body f29) 1):=zq (id:=12) (hl:=rfl)
def zGT (r:Relation):Wy0 (Relation×Int):=.bn (zvV r.Columns) λr8=>.i (!r8) (.k ((⟨[],[]⟩:Relation),1)) (.bn (zFI (Int.toNat 0+r.Columns.length+r.Rows.length+1) 0 r) λr7=>.i (isL r7) (.k ((⟨[],[]⟩:Relation),getL r7)) (.bn (zDm (Int.toNat 0+(getR r7).Columns.length+(getR r7).Rows.length+0+1) 0 (getR r7) []) λr6=>.i (isL r6) (.k ((⟨[],[]⟩:Relation),getL r6)) (.i (decide (Int.ofNat (getR r6).2.length>1024)) (.k ((⟨[],[]⟩:Relation),6)) (.k ((⟨(getR r6).1.Columns,(getR r6).2⟩:Relation),0)))))
def zrG (r:Relation):=(zGT r).fin default
def zWF:AL base (Relation×Unit):=zd (ze (zcd 25)) zt
def zB7:=zh zWF λx=>((zrG x.1).1,zMW (zrG x.1).2)
theorem zOS:SdP 29 zB7:=
 sT (cx':=zxI) (zi ⟨zSp,zYF,zG4,z0w,trivial⟩) call29 func29 (lOK (aC zR5 (aC zRe aN))) (sg:=⟨[.pure,.pure],[]⟩)
def z5a:=zbx base 12 [(29,zB7)]
def zUf (t:Table):Wy0 (Relation×Int):=.bn (zrG (Relation.mk t.Columns t.Rows)) λr0=>.k (r0.1,r0.2)
def zBL (t:Table):=(zUf t).fin default
def z7v:AL base (Table×Unit):=zd (ze (zcd 36)) zt
def zLO:=zh z7v λx=>((zBL x.1).1,zMW (zBL x.1).2)
theorem zYr:SdP 22 zLO:=
 sT (cx':=z5a) (zi ⟨zOS,trivial⟩) call22 func22 (lOK aN) (sg:=⟨[.pure,.pure],[]⟩)
def z2K:AL base (yB×Int×Int×Unit):=zd (ze (vSl 107)) (zd (ze (zf3 .i64)) (zd (ze (zf3 .i64)) zt))
def ztx (F:yB->Int->Int->Bool×Int):Ab.Spec ty:=zh z2K λx=>((F x.1 x.2.1 x.2.2.1).1,zMl (F x.1 x.2.1 x.2.2.1).2)
abbrev ziP:=yB×Int×Int×Int×Int×Int×Unit×Int×Unit
abbrev zK8:=yB×Int×Int×Int×Int×Int×At
abbrev zLo:=yB×Int×Int×Int×Int×Int
abbrev zwQ:=yB×Int×Int×Int×Int×Int×Unit
abbrev zLM:=yB×Int×Int×Int×Int
abbrev zw2:=yB×Int×Int×Int×Int×Unit
def zxZ (zH:yB->Int->Int->Bool×Int) (a:yB) (limit:Int) (zc2:Int) (n_:Int) (i:Int) (k:Int) (j:Int) (x_:At):Wy ziP (At×Unit) zK8:=.i (decide (j<Int.ofNat x_.Ag.length)) (.i (decide (n_<=limit)) (.i (decide (0<=j)&&decide (j<Int.ofNat x_.Ag.length)) (.bn (zH (x_.Ag.getD j.toNat default) (IntKind.i64.wrap (limit - n_)) (IntKind.i64.wrap (zc2 - 1))) λr0=>.h (a,limit,zc2,(IntKind.i64.wrap (n_+r0)),i,k,(),(IntKind.i64.wrap (j+1)),()) (x_,())) .d) (.k (a,limit,zc2,n_,i,k,x_))) (.k (a,limit,zc2,n_,i,k,x_))
def zE0 (zH:yB->Int->Int->Bool×Int) (x:ziP) (y:At×Unit):=zxZ zH x.1 x.2.1 x.2.2.1 x.2.2.2.1 x.2.2.2.2.1 x.2.2.2.2.2.1 x.2.2.2.2.2.2.2.1 y.1
def zxP (zH:yB->Int->Int->Bool×Int) (n:Nat) (a:yB) (limit:Int) (zc2:Int) (n_:Int) (i:Int) (k:Int) (j:Int) (x_:At):=zA (zE0 zH) default n (a,limit,zc2,n_,i,k,(),j,()) (x_,())
def zS6 (r:zK8):LTree ty:=.done (.exit 4) [.sl 107 r.1,.lit (.int .i64 r.2.1),.lit (.int .i64 r.2.2.1),.lit (.int .i64 r.2.2.2.1),.lit (.int .i64 r.2.2.2.2.1),.lit (.int .i64 r.2.2.2.2.2.1),.ptr 544 0] [.box (base.enc 143 r.2.2.2.2.2.2) false]
def zVx:LL ty ziP:=za (lSl 107) (za zj (za zj (za zj (za zj (za zj (za (zdH 544 0) (za zj zm)))))))
def zxl (zH:yB->Int->Int->Bool×Int) (a:yB) (limit:Int) (zc2:Int) (n_:Int) (i:Int) (k:Int) (j:Int) (x_:At):Wy ziP (At×Unit) zLo:=.i (decide (j<Int.ofNat x_.Items.length)) (.i (decide (n_<=limit)) (.i (decide (0<=j)&&decide (j<Int.ofNat x_.Items.length)) (.i (decide (0<=j)&&decide (j<Int.ofNat x_.Items.length)) (.bn (zH (x_.Items.getD j.toNat default).Ann (IntKind.i64.wrap (limit - n_)) (IntKind.i64.wrap (zc2 - 1))) λr2=>.h (a,limit,zc2,(IntKind.i64.wrap (IntKind.i64.wrap (n_+Int.ofNat (x_.Items.getD j.toNat default).Value.Text.size)+r2)),i,k,(),(IntKind.i64.wrap (j+1)),()) (x_,())) .d) .d) (.k (a,limit,zc2,n_,i,k))) (.k (a,limit,zc2,n_,i,k))
def zFi (zH:yB->Int->Int->Bool×Int) (x:ziP) (y:At×Unit):=zxl zH x.1 x.2.1 x.2.2.1 x.2.2.2.1 x.2.2.2.2.1 x.2.2.2.2.2.1 x.2.2.2.2.2.2.2.1 y.1
def zxD (zH:yB->Int->Int->Bool×Int) (n:Nat) (a:yB) (limit:Int) (zc2:Int) (n_:Int) (i:Int) (k:Int) (j:Int) (x_:At):=zA (zFi zH) default n (a,limit,zc2,n_,i,k,(),j,()) (x_,())
def zTd (r:zLo):LTree ty:=.done (.exit 6) [.sl 107 r.1,.lit (.int .i64 r.2.1),.lit (.int .i64 r.2.2.1),.lit (.int .i64 r.2.2.2.1),.lit (.int .i64 r.2.2.2.2.1),.lit (.int .i64 r.2.2.2.2.2)] []
def zyZ (zH:yB->Int->Int->Bool×Int) (a:yB) (limit:Int) (zc2:Int) (n_:Int) (i:Int) (k:Int):Wy zwQ Unit zLM:=.i (decide (0<=i)&&decide (i<Int.ofNat a.length)) (.i (decide (k<Int.ofNat (a.getD i.toNat default).Fs.length)) (.i (decide (n_<=limit)) (.i (decide (0<=i)&&decide (i<Int.ofNat a.length)) (.i (decide (0<=k)&&decide (k<Int.ofNat (a.getD i.toNat default).Fs.length)) (.bn (zxP zH (a.length+limit.toNat +zc2.toNat +(IntKind.i64.wrap (IntKind.i64.wrap (IntKind.i64.wrap (n_+Int.ofNat ((a.getD i.toNat default).Fs.getD k.toNat default).At.Items.length)+Int.ofNat ((a.getD i.toNat default).Fs.getD k.toNat default).At.Ag.length)+Int.ofNat ((a.getD i.toNat default).Fs.getD k.toNat default).At.Bd.Text.size)).toNat +i.toNat +k.toNat +Int.toNat 0+((a.getD i.toNat default).Fs.getD k.toNat default).At.Ag.length+((a.getD i.toNat default).Fs.getD k.toNat default).At.Items.length+1) a limit zc2 (IntKind.i64.wrap (IntKind.i64.wrap (IntKind.i64.wrap (n_+Int.ofNat ((a.getD i.toNat default).Fs.getD k.toNat default).At.Items.length)+Int.ofNat ((a.getD i.toNat default).Fs.getD k.toNat default).At.Ag.length)+Int.ofNat ((a.getD i.toNat default).Fs.getD k.toNat default).At.Bd.Text.size)) i k 0 (At.mk ((a.getD i.toNat default).Fs.getD k.toNat default).At.Kind ((a.getD i.toNat default).Fs.getD k.toNat default).At.Row ((a.getD i.toNat default).Fs.getD k.toNat default).At.Ag ((a.getD i.toNat default).Fs.getD k.toNat default).At.Func ((a.getD i.toNat default).Fs.getD k.toNat default).At.Items ((a.getD i.toNat default).Fs.getD k.toNat default).At.Op ((a.getD i.toNat default).Fs.getD k.toNat default).At.Bd)) λr5=>.bn (zxD zH (r5.1.length+r5.2.1.toNat +r5.2.2.1.toNat +r5.2.2.2.1.toNat +r5.2.2.2.2.1.toNat +r5.2.2.2.2.2.1.toNat +Int.toNat 0+r5.2.2.2.2.2.2.Ag.length+r5.2.2.2.2.2.2.Items.length+1) r5.1 r5.2.1 r5.2.2.1 r5.2.2.2.1 r5.2.2.2.2.1 r5.2.2.2.2.2.1 0 (At.mk r5.2.2.2.2.2.2.Kind r5.2.2.2.2.2.2.Row r5.2.2.2.2.2.2.Ag r5.2.2.2.2.2.2.Func r5.2.2.2.2.2.2.Items r5.2.2.2.2.2.2.Op r5.2.2.2.2.2.2.Bd)) λr4=>.h ((r4.1),(r4.2.1),(r4.2.2.1),(r4.2.2.2.1),(r4.2.2.2.2.1),(IntKind.i64.wrap (r4.2.2.2.2.2+1)),()) ()) .d) .d) (.k (a,limit,zc2,n_,i))) (.k (a,limit,zc2,n_,i))) .d
def zGS (zH:yB->Int->Int->Bool×Int) (x:zwQ) (y:Unit):=zyZ zH x.1 x.2.1 x.2.2.1 x.2.2.2.1 x.2.2.2.2.1 x.2.2.2.2.2.1
def zy8 (zH:yB->Int->Int->Bool×Int) (n:Nat) (a:yB) (limit:Int) (zc2:Int) (n_:Int) (i:Int) (k:Int):=zA (zGS zH) default n (a,limit,zc2,n_,i,k,()) ()
def zTD (r:zLM):LTree ty:=.done (.exit 2) [.sl 107 r.1,.lit (.int .i64 r.2.1),.lit (.int .i64 r.2.2.1),.lit (.int .i64 r.2.2.2.1),.lit (.int .i64 r.2.2.2.2)] []
def zWQ:LL ty zwQ:=za (lSl 107) (za zj (za zj (za zj (za zj (za zj zm)))))
def zy1 (zH:yB->Int->Int->Bool×Int) (a:yB) (limit:Int) (zc2:Int) (n_:Int) (i:Int):Wy zw2 Unit (Int):=.i (decide (i<Int.ofNat a.length)) (.i (decide (n_<=limit)) (.i (decide (0<=i)&&decide (i<Int.ofNat a.length)) (.bn (zy8 zH (a.length+limit.toNat +zc2.toNat +(IntKind.i64.wrap (IntKind.i64.wrap (n_+1)+Int.ofNat (a.getD i.toNat default).Fs.length)).toNat +i.toNat +Int.toNat 0+1) a limit zc2 (IntKind.i64.wrap (IntKind.i64.wrap (n_+1)+Int.ofNat (a.getD i.toNat default).Fs.length)) i 0) λr8=>.h ((r8.1),(r8.2.1),(r8.2.2.1),(r8.2.2.2.1),(IntKind.i64.wrap (r8.2.2.2.2+1)),()) ()) .d) (.k n_)) (.k n_)
def zGP (zH:yB->Int->Int->Bool×Int) (x:zw2) (y:Unit):=zy1 zH x.1 x.2.1 x.2.2.1 x.2.2.2.1 x.2.2.2.2.1
def zze (zH:yB->Int->Int->Bool×Int) (n:Nat) (a:yB) (limit:Int) (zc2:Int) (n_:Int) (i:Int):=zA (zGP zH) default n (a,limit,zc2,n_,i,()) ()
def zXr:LL ty zw2:=za (lSl 107) (za zj (za zj (za zj (za zj zm))))
def zSt (x:ziP) (y:At×Unit):Nat:=(x.1.length+Int.toNat x.2.1+Int.toNat x.2.2.1+Int.toNat x.2.2.2.1+Int.toNat x.2.2.2.2.1+Int.toNat x.2.2.2.2.2.1+Int.toNat x.2.2.2.2.2.2.2.1+y.1.Ag.length+y.1.Items.length+1)
def zUg (x:zwQ) (y:Unit):Nat:=(x.1.length+Int.toNat x.2.1+Int.toNat x.2.2.1+Int.toNat x.2.2.2.1+Int.toNat x.2.2.2.2.1+Int.toNat x.2.2.2.2.2.1+1)
def zU6 (x:zw2) (y:Unit):Nat:=(x.1.length+Int.toNat x.2.1+Int.toNat x.2.2.1+Int.toNat x.2.2.2.1+Int.toNat x.2.2.2.2.1+1)
def zoa (zH:yB->Int->Int->Bool×Int):=zb1 base 136 [(79,(ztx zH))] [] [(5,(kpL [0,1,2,7,8])),(9,(kpL [0,1,2,7,8,9])),(14,(kpL [0,1,2,7,8,9,10,11])),(18,(kpL [0,1,2,7,8,9,10,12]))] [(5,1,(kpL [7])),(9,3,(kpL [0,1,2,7,8])),(14,5,(kpL [0,1,2,7,8,9,10])),(18,7,(kpL [0,1,2,7,8,9]))] [(14,spW zVx zSi (zE0 zH) default zS6 zSt),(18,spW zVx zSi (zFi zH) default zTd zSt),(9,spW zWQ z4x (zGS zH) default zTD zUg),(5,spW zXr z4x (zGP zH) default zN0 zU6)] []
theorem zSZ (zH:yB->Int->Int->Bool×Int):zJ (zoa zH) (lp (body f79) 2):=zq (id:=14) (hl:=rfl)
theorem zSc (zH:yB->Int->Int->Bool×Int):zJ (zoa zH) (lp (body f79) 3):=zq (id:=18) (hl:=rfl)
theorem zUA (zH:yB->Int->Int->Bool×Int):zJ (zoa zH) (lp (body f79) 1):=zq (id:=9) (hl:=rfl)
theorem zVk (zH:yB->Int->Int->Bool×Int):zJ (zoa zH) (lp (body f79) 0):=zq (id:=5) (hl:=rfl)
def zz1 (zH:yB->Int->Int->Bool×Int) (a:yB) (limit:Int) (zc2:Int):Wy0 (Int):=.i (zc2==0) (.k (IntKind.i64.wrap (limit+1))) (.bn (zze zH (a.length+limit.toNat +zc2.toNat +Int.toNat 0+Int.toNat 0+1) a limit zc2 0 0) λr10=>.k r10)
def ztO (zH:yB->Int->Int->Bool×Int) (a:yB) (limit:Int) (zc2:Int):=(zz1 zH a limit zc2).fin default
theorem zQT (zH:yB->Int->Int->Bool×Int) (zZq:SdP 79 (ztx zH)):SdP 79 (ztx (ztO zH)):=
 sT (cx':=(zoa zH)) (zi ⟨zZq,trivial⟩) call79 func79 (lOK (aC (zVk zH) (aC (zUA zH) (aC (zSZ zH) (aC (zSc zH) aN)))))
def zX8:Nat->(yB->Int->Int->Bool×Int)
 | 0=>λ_ _ _=>(false,default)
 | n+1=>ztO (zX8 n)
def zpk (n:Nat):yB->Int->Int->Bool×Int:=zX8 n
theorem zGO (n:Nat):zpk (n+1)=ztO (zpk n):=rfl
theorem zRM:∀ n,SdP 79 (ztx (zpk n))
 | 0=>zbk call79 (λ_=>rfl)
 | n+1=>by
  have ih:=zRM n;exact zQT _ (ih)
def zJq:yB->Int->Int->Bool×Int:=zpk 1000
def zHe:Ab.Spec ty:=ztx zJq
theorem zUl:SdP 79 zHe:=(zRM 1000)
abbrev zCs:=Int×yA×Int×Unit
def zJU (limit:Int) (l:yA) (i:Int):Wy zCs Unit (Bool⊕Unit):=.i (decide (i<Int.ofNat l.length)) (.i (decide (0<=i)&&decide (i<Int.ofNat l.length)) (.bn (zJq (l.getD i.toNat default) limit 12) λr0=>.i (decide (r0>limit)) (.k (.inl false)) (.h (limit,l,(IntKind.i64.wrap (i+1)),()) ())) .d) (.k (.inr ()))
def zV1 (x:zCs) (y:Unit):=zJU x.1 x.2.1 x.2.2.1
def zIO (n:Nat) (limit:Int) (l:yA) (i:Int):=zA (zV1) (.inl default) n (limit,l,i,()) ()
def z7Z:LL ty zCs:=za zj (za (lSl 51) (za zj zm))
def z4H (x:zCs) (y:Unit):Nat:=(Int.toNat x.1+x.2.1.length+Int.toNat x.2.2.1+1)
def zU5:=zb1 base 20 [(79,zHe)] [] [(2,(kpL [0,1,5]))] [(2,1,[]),(2,0,(kpL [4]))] [(2,spW z7Z z4x (zV1) (.inl default) zmp z4H)] []
theorem z5b:zJ zU5 (lp (body f36) 0):=zq (id:=2) (hl:=rfl)
def zXH (limit:Int) (l:yA):Wy0 (Bool):=.bn (zIO (limit.toNat +l.length+Int.toNat 0+1) limit l 0) λr2=>.i (isL r2) (.k (getL r2)) (.k true)
def zAT (limit:Int) (l:yA):=(zXH limit l).fin default
def z8b:AL base (Int×yA×Unit):=zd (ze zfx) (zd (ze (vSl 51)) zt)
def zOF:=zh z8b λx=>((zAT x.1 x.2.1).1,zTe (zAT x.1 x.2.1).2)
theorem z05:SdP 36 zOF:=
 sT (cx':=zU5) (zi ⟨zUl,trivial⟩) call36 func36 (lOK (aC z5b aN))
abbrev zml:=Int×Int×List Relation×Int×Int×Unit
abbrev zBS:=Bool⊕(Int×Int×List Relation×Int)
abbrev zCm:=Int×Int×List Relation×Int×Unit
def zJD (rows:Int) (weight:Int) (l:List Relation) (i:Int) (k:Int):Wy zml Unit zBS:=.i (decide (0<=i)&&decide (i<Int.ofNat l.length)) (.i (decide (k<Int.ofNat (l.getD i.toNat default).Columns.length)) (.i (decide (0<=i)&&decide (i<Int.ofNat l.length)) (.i (decide (0<=k)&&decide (k<Int.ofNat (l.getD i.toNat default).Columns.length)) (.i (decide (Int.ofNat ((l.getD i.toNat default).Columns.getD k.toNat default).Name.size>100)) (.k (.inl false)) (.h (rows,weight,l,i,(IntKind.i64.wrap (k+1)),()) ())) .d) .d) (.k (.inr (rows,weight,l,i)))) .d
def zJw (x:zml) (y:Unit):=zJD x.1 x.2.1 x.2.2.1 x.2.2.2.1 x.2.2.2.2.1
def zVn (n:Nat) (rows:Int) (weight:Int) (l:List Relation) (i:Int) (k:Int):=zA (zJw) (.inl default) n (rows,weight,l,i,k,()) ()
def z5k (r:zBS):LTree ty:=.ite (isL r) (.done .ret [.lit (.bool (getL r))] []) (.done (.exit 2) [.lit (.int .i64 (getR r).1),.lit (.int .i64 (getR r).2.1),.sl 25 (getR r).2.2.1,.lit (.int .i64 (getR r).2.2.2)] [])
def z68:LL ty zml:=za zj (za zj (za (lSl 25) (za zj (za zj zm))))
def zGI (rows:Int) (weight:Int) (l:List Relation) (i:Int) (k:Int):Wy zml Unit zBS:=.i (decide (0<=i)&&decide (i<Int.ofNat l.length)) (.i (decide (k<Int.ofNat (l.getD i.toNat default).Rows.length)) (.i (decide (0<=i)&&decide (i<Int.ofNat l.length)) (.i (decide (0<=k)&&decide (k<Int.ofNat (l.getD i.toNat default).Rows.length)) (.bn (zpc ((l.getD i.toNat default).Rows.getD k.toNat default).Values 20) λr1=>.i (!r1) (.k (.inl false)) (.i (decide (0<=i)&&decide (i<Int.ofNat l.length)) (.i (decide (0<=k)&&decide (k<Int.ofNat (l.getD i.toNat default).Rows.length)) (.bn (zAT weight [((l.getD i.toNat default).Rows.getD k.toNat default).Ann]) λr0=>.i (!r0) (.k (.inl false)) (.h (rows,weight,l,i,(IntKind.i64.wrap (k+1)),()) ())) .d) .d)) .d) .d) (.k (.inr (rows,weight,l,i)))) .d
def zF9 (x:zml) (y:Unit):=zGI x.1 x.2.1 x.2.2.1 x.2.2.2.1 x.2.2.2.2.1
def zRY (n:Nat) (rows:Int) (weight:Int) (l:List Relation) (i:Int) (k:Int):=zA (zF9) (.inl default) n (rows,weight,l,i,k,()) ()
def z2a (r:zBS):LTree ty:=.ite (isL r) (.done .ret [.lit (.bool (getL r))] []) (.done (.exit 4) [.lit (.int .i64 (getR r).1),.lit (.int .i64 (getR r).2.1),.sl 25 (getR r).2.2.1,.lit (.int .i64 (getR r).2.2.2)] [])
def zJc (rows:Int) (weight:Int) (l:List Relation) (i:Int):Wy zCm Unit (Bool⊕Unit):=.i (decide (i<Int.ofNat l.length)) (.i (decide (0<=i)&&decide (i<Int.ofNat l.length)) (.i (decide (Int.ofNat (l.getD i.toNat default).Rows.length>rows)) (.k (.inl false)) (.i (decide (0<=i)&&decide (i<Int.ofNat l.length)) (.i (decide (Int.ofNat (l.getD i.toNat default).Columns.length>20)) (.k (.inl false)) (.bn (zVn (rows.toNat +weight.toNat +l.length+i.toNat +Int.toNat 0+1000) rows weight l i 0) λr5=>.i (isL r5) (.k (.inl (getL r5))) (.bn (zRY ((getR r5).1.toNat +(getR r5).2.1.toNat +(getR r5).2.2.1.length+(getR r5).2.2.2.toNat +Int.toNat 0+1000) (getR r5).1 (getR r5).2.1 (getR r5).2.2.1 (getR r5).2.2.2 0) λr4=>.i (isL r4) (.k (.inl (getL r4))) (.h ((getR r4).1,(getR r4).2.1,(getR r4).2.2.1,(IntKind.i64.wrap ((getR r4).2.2.2+1)),()) ())))) .d)) .d) (.k (.inr ()))
def zI6 (x:zCm) (y:Unit):=zJc x.1 x.2.1 x.2.2.1 x.2.2.2.1
def zUG (n:Nat) (rows:Int) (weight:Int) (l:List Relation) (i:Int):=zA (zI6) (.inl default) n (rows,weight,l,i,()) ()
def z6m:LL ty zCm:=za zj (za zj (za (lSl 25) (za zj zm)))
def z40 (x:zml) (y:Unit):Nat:=(Int.toNat x.1+Int.toNat x.2.1+x.2.2.1.length+Int.toNat x.2.2.2.1+Int.toNat x.2.2.2.2.1+1000)
def z5u (x:zCm) (y:Unit):Nat:=(Int.toNat x.1+Int.toNat x.2.1+x.2.2.1.length+Int.toNat x.2.2.2.1+1000)
def zCg:=zb1 base 90 [(18,zAj),(36,zOF)] [] [(2,(kpL [0,1,2,7])),(7,(kpL [0,1,2,7,8])),(12,(kpL [0,1,2,7,9]))] [(2,1,[]),(2,0,(kpL [6])),(7,3,(kpL [0,1,2,7])),(7,0,(kpL [6])),(12,5,(kpL [0,1,2,7])),(12,0,(kpL [6]))] [(7,spW z68 z4x (zJw) (.inl default) z5k z40),(12,spW z68 z4x (zF9) (.inl default) z2a z40),(2,spW z6m z4x (zI6) (.inl default) zmp z5u)] []
theorem z4D:zJ zCg (lp (body f11) 1):=zq (id:=7) (hl:=rfl)
theorem z2j:zJ zCg (lp (body f11) 2):=zq (id:=12) (hl:=rfl)
theorem z4B:zJ zCg (lp (body f11) 0):=zq (id:=2) (hl:=rfl)
def zX2 (rows:Int) (weight:Int) (l:List Relation):Wy0 (Bool):=.bn (zUG (rows.toNat +weight.toNat +l.length+Int.toNat 0+1000) rows weight l 0) λr8=>.i (isL r8) (.k (getL r8)) (.k true)
def zBf (rows:Int) (weight:Int) (l:List Relation):=(zX2 rows weight l).fin default
def z8C:AL base (Int×Int×List Relation×Unit):=zd (ze zfx) (zd (ze zfx) (zd (ze (vSl 25)) zt))
def zOJ:=zh z8C λx=>((zBf x.1 x.2.1 x.2.2.1).1,zTe (zBf x.1 x.2.1 x.2.2.1).2)
theorem z00:SdP 11 zOJ:=
 sT (cx':=zCg) (zi ⟨zG8,z05,trivial⟩) call11 func11 (lOK (aC z4B (aC z4D (aC z2j aN))))
abbrev zyg:=Int×List (yG)×Unit×Unit×Int×Unit
abbrev zyp:=(Int×ByteArray×Unit×Unit×Unit)×(Int×ByteArray×yH×Unit×Unit)×yF×Unit
abbrev zNs:=Int×ByteArray×Int×ByteArray×yH×yF
def zDz (id:Int) (rows:List (yG)) (i:Int) (t6_0:Int) (t6_1:ByteArray) (t_0:Int) (t_1:ByteArray) (t_2:yH) (b2:yF):Wy zyg zyp zNs:=.i (decide (i<Int.ofNat rows.length)) (.i (decide (0<=i)&&decide (i<Int.ofNat rows.length)) (.bn (zAK (RowID.mk id (IntKind.i64.wrap (i+1)))) λr0=>.i (decide ((b2.length+[Row.mk (rows.getD i.toNat default) r0].length)*48<=zF)) (.h (id,rows,(),(),(IntKind.i64.wrap (i+1)),()) ((t6_0,t6_1,(),(),()),(t_0,t_1,t_2,(),()),(b2++[Row.mk (rows.getD i.toNat default) r0]),())) .d) .d) (.k (t6_0,t6_1,t_0,t_1,t_2,b2))
def zDP (x:zyg) (y:zyp):=zDz x.1 x.2.1 x.2.2.2.2.1 y.1.1 y.1.2.1 y.2.1.1 y.2.1.2.1 y.2.1.2.2.1 y.2.2.1
def zDM (n:Nat) (id:Int) (rows:List (yG)) (i:Int) (t6_0:Int) (t6_1:ByteArray) (t_0:Int) (t_1:ByteArray) (t_2:yH) (b2:yF):=zA (zDP) default n (id,rows,(),(),i,()) ((t6_0,t6_1,(),(),()),(t_0,t_1,t_2,(),()),b2,())
def zZV (r:zNs):LTree ty:=.done (.exit 0) [.ptr 136 0,.ptr 137 0] [.box ([.lit (.int .i64 r.1),.lit (.string r.2.1),.lit (.slice none 0 0),.lit (.slice none 0 0)]) false,.box ([.lit (.int .i64 r.2.2.1),.lit (.string r.2.2.2.1),.sl 75 r.2.2.2.2.1,.own 138]) false,.arr 54 r.2.2.2.2.2 false]
def z2i:LL ty zyg:=za zj (za (lSl 34) (za (zdH 136 0) (za (zdH 137 0) (za zj zm))))
def z3i:BL ty zyp:=zfj (za (zS .i64) (za znN (za zzi (za zzi zm)))) false (zfj (za (zS .i64) (za znN (za (lSl 75) (za (zfb 138) zm)))) false (zfl 54 false (zbg)))
def z1v (x:zyg) (y:zyp):Nat:=(Int.toNat x.1+x.2.1.length+Int.toNat x.2.2.2.2.1+Int.toNat y.1.1+y.1.2.1.size+Int.toNat y.2.1.1+y.2.1.2.1.size+y.2.1.2.2.1.length+y.2.2.1.length+1)
def zPc:=zb1 base 34 [(64,zEe)] [] [(3,[(0,.keep),(2,.keep),(6,.keep),(7,.boxOwn [(3,54)]),(8,.keep)])] [(3,1,(kpL [6,7]))] [(3,spW z2i z3i (zDP) default zZV z1v)] []
theorem z0b:zJ zPc (lp (body f20) 0):=zq (id:=3) (hl:=rfl)
def zRK (id:Int) (columns:yH) (rows:List (yG)):Wy0 (Table):=.bn (zDM (id.toNat +rows.length+Int.toNat 0+Int.toNat 0+(ByteArray.mk #[]).size+id.toNat +(ByteArray.mk #[]).size+columns.length+0+1) id rows 0 0 (ByteArray.mk #[]) id (ByteArray.mk #[]) columns []) λr2=>.k (⟨r2.2.2.1,r2.2.2.2.1,r2.2.2.2.2.1,r2.2.2.2.2.2⟩:Table)
def zzx (id:Int) (columns:yH) (rows:List (yG)):=(zRK id columns rows).fin default
def z0T (r:Table):ARes ty:=⟨[.pure (.agg (base.enc 36 r))],[]⟩
def z4M:AL base (Int×yH×List (yG)×Unit):=zd (ze zfx) (zd (ze (vSl 75)) (zd (ze (vSl 34)) zt))
def zJ0:=zh z4M λx=>((zzx x.1 x.2.1 x.2.2.1).1,z0T (zzx x.1 x.2.1 x.2.2.1).2)
theorem zXm:SdP 20 zJ0:=
 sT (cx':=zPc) (zi ⟨zLv,trivial⟩) call20 func20 (lOK (aC z0b aN))
def zYt:=zbx zbw 12 [(28,zrm)]
def zLd (t:Table):Wy0 (Relation×Int):=.bn (zmk (Relation.mk t.Columns t.Rows)) λr0=>.k (r0.1,r0.2)
def zv1 (t:Table):=(zLd t).fin default
def z0u:AL zbw (Table×Unit):=zd (ze (zcd 36)) zt
def zFV:=zh z0u λx=>((zv1 x.1).1,zMW (zv1 x.1).2)
theorem zSC:Sound Tryz.prog zbw 21 zFV:=
 sU (cx':=zYt) (zi ⟨zxH,trivial⟩) call21 func21 (lOK aN) (sg:=⟨[.pure,.pure],[]⟩)
abbrev ztc:=Int×Unit×Unit×List (yG)×Int×Int×Unit
abbrev ztk:=(Int×ByteArray×Unit×Unit×Unit)×(Int×ByteArray×Unit×Unit×Unit)×yH×yF×Unit
abbrev zG9:=Int×ByteArray×Int×ByteArray×yH×yF
def zzj (id:Int) (t14:List (yG)) (t15:Int) (t16:Int) (t6_0:Int) (t6_1:ByteArray) (t_0:Int) (t_1:ByteArray) (b2:yH) (b3:yF):Wy ztc ztk zG9:=.i (decide (t16<t15)) (.i (decide (0<=t16)&&decide (t16<Int.ofNat t14.length)) (.bn (zcr (t14.getD t16.toNat default)) λr1=>.bn (zpD (RowID.mk id (IntKind.i64.wrap (t16+1)))) λr0=>.i (decide ((b3.length+[Row.mk r1 r0].length)*48<=zF)) (.h (id,(),(),t14,t15,(IntKind.i64.wrap (t16+1)),()) ((t6_0,t6_1,(),(),()),(t_0,t_1,(),(),()),b2,(b3++[Row.mk r1 r0]),())) .d) .d) (.k (t6_0,t6_1,t_0,t_1,b2,b3))
def zy7 (x:ztc) (y:ztk):=zzj x.1 x.2.2.2.1 x.2.2.2.2.1 x.2.2.2.2.2.1 y.1.1 y.1.2.1 y.2.1.1 y.2.1.2.1 y.2.2.1 y.2.2.2.1
def zzf (n:Nat) (id:Int) (t14:List (yG)) (t15:Int) (t16:Int) (t6_0:Int) (t6_1:ByteArray) (t_0:Int) (t_1:ByteArray) (b2:yH) (b3:yF):=zA (zy7) default n (id,(),(),t14,t15,t16,()) ((t6_0,t6_1,(),(),()),(t_0,t_1,(),(),()),b2,b3,())
def zVR (r:zG9):LTree ty:=.done (.exit 0) [.ptr 144 0,.ptr 145 0] [.box ([.lit (.int .i64 r.1),.lit (.string r.2.1),.lit (.slice none 0 0),.lit (.slice none 0 0)]) false,.box ([.lit (.int .i64 r.2.2.1),.lit (.string r.2.2.2.1),.own 146,.own 147]) false,.arr 75 r.2.2.2.2.1 false,.arr 54 r.2.2.2.2.2 false]
def zWx:LL ty ztc:=za zj (za (zdH 144 0) (za (zdH 145 0) (za (lSl 34) (za zj (za zj zm)))))
def zXi:BL ty ztk:=zfj (za (zS .i64) (za znN (za zzi (za zzi zm)))) false (zfj (za (zS .i64) (za znN (za (zfb 146) (za (zfb 147) zm)))) false (zfl 75 false (zfl 54 false (zbg))))
def zUP (x:ztc) (y:ztk):Nat:=(Int.toNat x.1+x.2.2.2.1.length+Int.toNat x.2.2.2.2.1+Int.toNat x.2.2.2.2.2.1+Int.toNat y.1.1+y.1.2.1.size+Int.toNat y.2.1.1+y.2.1.2.1.size+y.2.2.1.length+y.2.2.2.1.length+1000)
def zGW:=zb1 base 36 [(61,zfP),(62,zgK),(63,zwl)] [] [(3,[(0,.keep),(6,.keep),(7,.boxOwn [(3,54)]),(14,.keep),(15,.keep),(16,.keep)])] [(3,1,(kpL [6,7]))] [(3,spW zWx zXi (zy7) default zVR zUP)] []
theorem zVD:zJ zGW (lp (body f19) 0):=zq (id:=3) (hl:=rfl)
def zJ4 (id:Int) (columns:yH) (rows:List (yG)):Wy0 (Table):=.bn (zbX columns) λr5=>.bn (zzf (id.toNat +rows.length+(Int.ofNat rows.length).toNat +Int.toNat 0+Int.toNat 0+(ByteArray.mk #[]).size+id.toNat +(ByteArray.mk #[]).size+r5.length+0+1000) id rows (Int.ofNat rows.length) 0 0 (ByteArray.mk #[]) id (ByteArray.mk #[]) r5 []) λr4=>.k (⟨r4.2.2.1,r4.2.2.2.1,r4.2.2.2.2.1,r4.2.2.2.2.2⟩:Table)
def ztv (id:Int) (columns:yH) (rows:List (yG)):=(zJ4 id columns rows).fin default
def zDq:=zh z4M λx=>((ztv x.1 x.2.1 x.2.2.1).1,z0T (ztv x.1 x.2.1 x.2.2.1).2)
theorem zRc:SdP 19 zDq:=
 sT (cx':=zGW) (zi ⟨zj1,zkQ,zCk,trivial⟩) call19 func19 (lOK (aC zVD aN))
abbrev zlX:=Int×yH×List (yG)×Int×Unit
abbrev zzr:=Bool⊕(Int×yH×List (yG))
abbrev zeG:=Int×yH×List (yG)×Unit
def zsv (id:Int) (columns:yH) (rows:List (yG)) (i:Int):Wy zlX Unit zzr:=.i (decide (i<Int.ofNat rows.length)) (.i (decide (0<=i)&&decide (i<Int.ofNat rows.length)) (.bn (zpc (rows.getD i.toNat default) 20) λr0=>.i (!r0) (.k (.inl true)) (.h (id,columns,rows,(IntKind.i64.wrap (i+1)),()) ())) .d) (.k (.inr (id,columns,rows)))
def zsE (x:zlX) (y:Unit):=zsv x.1 x.2.1 x.2.2.1 x.2.2.2.1
def zzo (n:Nat) (id:Int) (columns:yH) (rows:List (yG)) (i:Int):=zA (zsE) (.inl default) n (id,columns,rows,i,()) ()
def zKB (r:zzr):LTree ty:=.ite (isL r) (.done .ret [.lit (.bool (getL r))] []) (.done (.exit 0) [.lit (.int .i64 (getR r).1),.sl 75 (getR r).2.1,.sl 34 (getR r).2.2] [])
def zMq:LL ty zlX:=za zj (za (lSl 75) (za (lSl 34) (za zj zm)))
def zsz (id:Int) (columns:yH) (rows:List (yG)):Wy zeG Unit (Bool):=.bn (zzo (id.toNat +columns.length+rows.length+Int.toNat 0+1000) id columns rows 0) λr9=>.i (isL r9) (.k (getL r9)) (.bn (ztv (getR r9).1 (getR r9).2.1 (getR r9).2.2) λr8=>.bn (zzx (getR r9).1 (getR r9).2.1 (getR r9).2.2) λr7=>.bn (zv1 r8) λr6=>.bn (zBL r7) λr5=>.i (r8.ID==(getR r9).1) (.i (r8.Name.toList==(ByteArray.mk #[]).toList) (.bn (zkK r8.Columns (getR r9).2.1) λr4=>.i (r4) (.bn (zpt r8.Rows r7.Rows) λr3=>.i (r3) (.bn (zCj r6.1 r6.2 r5.1 r5.2) λr2=>.k r2) (.k false)) (.k false)) (.k false)) (.k false))
def zsy (x:zeG) (y:Unit):=zsz x.1 x.2.1 x.2.2.1
def zzn (n:Nat) (id:Int) (columns:yH) (rows:List (yG)):=zA (zsy) default n (id,columns,rows,()) ()
def zKS (r:Bool):LTree ty:=.done .ret [.lit (.bool r)] []
def zMr:LL ty zeG:=za zj (za (lSl 75) (za (lSl 34) zm))
def zsD (id:Int) (columns:yH) (rows:List (yG)):Wy zeG Unit (Bool):=.i (decide (Int.ofNat rows.length>8)) (.k true) (.bn (zBf 8 8 [Relation.mk columns []]) λr19=>.i (!r19) (.k true) (.bn (zzn 1 id columns rows) λr18=>.k r18))
def zsS (x:zeG) (y:Unit):=zsD x.1 x.2.1 x.2.2.1
def zzu (n:Nat) (id:Int) (columns:yH) (rows:List (yG)):=zA (zsS) default n (id,columns,rows,()) ()
def zKg (x:zlX) (y:Unit):Nat:=(Int.toNat x.1+x.2.1.length+x.2.2.1.length+Int.toNat x.2.2.2.1+1000)
def zl4:=zban zbw 85 [(10,zIf),(11,zOJ),(18,zAj),(19,zDq),(20,zJ0),(21,zFV),(22,zLO),(23,zsX),(24,zwA),(25,zLJ)] [] [(6,(kpL [0,1,2,7])),(3,(kpL [0,1,2])),(5,(kpL [0,1,2]))] [(6,1,(kpL [0,1,2])),(6,0,(kpL [6])),(3,0,(kpL [6])),(5,0,(kpL [6]))] [(6,spW zMq z4x (zsE) (.inl default) zKB zKg)] [] [(5,spW zMr z4x (zsy) default zKS λx y=>(1)),(3,spW zMr z4x (zsS) default zKS λx y=>(1))]
theorem zKu:zJ zl4 (lp (body f4) 0):=zq (id:=6) (hl:=rfl)
theorem zKX:zTN zl4 (jn (body f4) 5):=z5Y (id:=5) (hl:=rfl)
theorem zKA:zTN zl4 (jn (body f4) 3):=z5Y (id:=3) (hl:=rfl)
def zA9 (id:Int) (columns:yH) (rows:List (yG)):Wy0 (Bool):=.bn (zzu 1 id columns rows) λr22=>.k r22
def ziW (id:Int) (columns:yH) (rows:List (yG)):=(zA9 id columns rows).fin default
def zOh:AL zbw zeG:=zd (ze zfx) (zd (ze (vSl 75)) (zd (ze (vSl 34)) zt))
def zp2:=zh zOh λx=>((ziW x.1 x.2.1 x.2.2.1).1,zTe (ziW x.1 x.2.1 x.2.2.1).2)
theorem zHu:Sound Tryz.prog zbw 4 zp2:=
 z2p (cx':=zl4) zzQ zQf zbdV (zbcO ⟨zWV,z00.nodr,zG8.nodr,zRc.nodr,zXm.nodr,zSC,zYr.nodr,zyB.nodr,zBY.nodr,zYR.nodr,trivial⟩) call4 func4 (c:=body f4) (by kernel_rfl) (z4F (l:=[lp (body f4) 0]) (by kernel_rfl) ⟨zKu,trivial⟩ (js:=[jn (body f4) 3,jn (body f4) 5]) (by kernel_rfl) ⟨zKA,zKX,trivial⟩) (sg:=⟨[.pure],[]⟩)
def trV (v:Value):TT:=.l [.i v.Kind,.i v.Int,trB v.Text]
mutual
def zdN:At->TT
 | ⟨k,r,a,f,i,o,b⟩=>.l [.i k,.i r.Table,.i r.Seq,.l (zvY a),.i f,.l (zhg i),.i o,trV b]
def zqf:Fc->TT
 | ⟨x,e⟩=>.l [zdN x,.i e]
def zbv:yC->List TT
 | []=>[]
 | x::r=>zqf x::zbv r
def zxF:Term->TT
 | ⟨c,fs⟩=>.l [.l (zbv fs),.i c]
def zdi:yB->List TT
 | []=>[]
 | x::r=>zxF x::zdi r
def zvY:yA->List TT
 | []=>[]
 | x::r=>.l (zdi x)::zvY r
def zbc:Wd->TT
 | ⟨v,a⟩=>.l [trV v,.l (zdi a)]
def zhg:yD->List TT
 | []=>[]
 | x::r=>zbc x::zhg r
end
theorem zvz:∀ l,zbv l=l.map zqf
 | []=>by rw [zbv]; rfl
 | x::r=>by rw [zbv,zvz r]; rfl
theorem zER:∀ l,zdi l=l.map zxF
 | []=>by rw [zdi]; rfl
 | x::r=>by rw [zdi,zER r]; rfl
theorem zCy:∀ l,zvY l=l.map λx=>.l (zdi x)
 | []=>by rw [zvY]; rfl
 | x::r=>by rw [zvY,zCy r]; rfl
theorem zl0:∀ l,zhg l=l.map zbc
 | []=>by rw [zhg]; rfl
 | x::r=>by rw [zhg,zl0 r]; rfl
theorem zGs:∀ a b:List UInt8,(a.map λx=>TT.i (x.toNat:Int))=(b.map λx=>TT.i (x.toNat:Int))->a=b
 | [],[]=>λ_=>rfl
 | [],_::_=>λh=>by simp at h
 | _::_,[]=>λh=>by simp at h
 | x::a,y::b=>λh=>by
  simp only [List.map,qj,TT.i.injEq] at h;rw [zGs a b h.2,UInt8.toNat_inj.1 (Int.ofNat.inj h.1)]
theorem z17 {a b:Value} (h:trV a=trV b):a=b:=by
 obtain ⟨k,n,s⟩:=a; obtain ⟨k',n',s'⟩:=b;simp only [trV,trB,TT.l.injEq,qj,TT.i.injEq,and_true] at h;obtain ⟨rfl,rfl,h⟩:=h;have:=zGs _ _ h;obtain ⟨⟨l⟩⟩:=s; obtain ⟨⟨l'⟩⟩:=s';simp only at this; subst this; rfl
mutual
theorem z1x:∀ a b:At,zdN a=zdN b->a=b
 | ⟨k,r,a,f,i,o,v⟩,⟨k',r',a',f',i',o',v'⟩=>λh=>by
  simp only [zdN,TT.l.injEq,qj,TT.i.injEq,and_true] at h;obtain ⟨rfl,h1,h2,h3,rfl,h4,rfl,h5⟩:=h;obtain ⟨t,s⟩:=r; obtain ⟨t',s'⟩:=r';simp only at h1 h2; subst h1 h2;rw [z1B a a' h3,zXM i i' h4,z17 h5]
theorem z6n:∀ a b:Fc,zqf a=zqf b->a=b
 | ⟨x,e⟩,⟨x',e'⟩=>λh=>by
  simp only [zqf,TT.l.injEq,qj,TT.i.injEq,and_true] at h;rw [z1x x x' h.1,h.2]
theorem zzO:∀ a b:yC,zbv a=zbv b->a=b
 | [],[]=>λ_=>rfl
 | [],_::_=>λh=>by simp [zbv] at h
 | _::_,[]=>λh=>by simp [zbv] at h
 | x::a,y::b=>λh=>by
  simp only [zbv,qj] at h;rw [z6n x y h.1,zzO a b h.2]
theorem zbai:∀ a b:Term,zxF a=zxF b->a=b
 | ⟨c,l⟩,⟨c',l'⟩=>λh=>by
  simp only [zxF,TT.l.injEq,qj,TT.i.injEq,and_true] at h;rw [zzO l l' h.1,h.2]
theorem zFh:∀ a b:yB,zdi a=zdi b->a=b
 | [],[]=>λ_=>rfl
 | [],_::_=>λh=>by simp [zdi] at h
 | _::_,[]=>λh=>by simp [zdi] at h
 | x::a,y::b=>λh=>by
  simp only [zdi,qj] at h;rw [zbai x y h.1,zFh a b h.2]
theorem z1B:∀ a b:yA,zvY a=zvY b->a=b
 | [],[]=>λ_=>rfl
 | [],_::_=>λh=>by simp [zvY] at h
 | _::_,[]=>λh=>by simp [zvY] at h
 | x::a,y::b=>λh=>by
  simp only [zvY,qj,TT.l.injEq] at h;rw [zFh x y h.1,z1B a b h.2]
theorem zZW:∀ a b:Wd,zbc a=zbc b->a=b
 | ⟨c,l⟩,⟨c',l'⟩=>λh=>by
  simp only [zbc,TT.l.injEq,qj,and_true] at h;rw [z17 h.1,zFh l l' h.2]
theorem zXM:∀ a b:yD,zhg a=zhg b->a=b
 | [],[]=>λ_=>rfl
 | [],_::_=>λh=>by simp [zhg] at h
 | _::_,[]=>λh=>by simp [zhg] at h
 | x::a,y::b=>λh=>by
  simp only [zhg,qj] at h;rw [zZW x y h.1,zXM a b h.2]
end
def zc0 (P:yB->Prop) (x:At):Prop:=
 (x.Ag.length<=1000000/\x.Items.length<=1000000/\x.Bd.Text.size<=1000000000000)/\(∀ a∈x.Ag,P a)/\∀ w∈x.Items,w.Value.Text.size<=1000000000000/\P w.Ann
def zgu (P:yB->Prop) (l:yC):Prop:=l.length<=1000000/\∀ f∈l,zc0 P f.At
def zo:Nat->yB->Prop
 | 0,_=>False
 | n+1,a=>a.length<=1000000/\∀ t∈a,zgu (zo n) t.Fs
theorem zc0.imp {P Q:yB->Prop} (h:∀ a,P a->Q a) {x:At} (hx:zc0 P x):zc0 Q x:=⟨hx.1,λa ha=>h a (hx.2.1 a ha),λw hw=>⟨(hx.2.2 w hw).1,h _ (hx.2.2 w hw).2⟩⟩
theorem zo.succ:∀ (n:Nat) (a:yB),zo n a->zo (n+1) a
 | 0,_,h=>h.elim
 | n+1,a,h=>⟨h.1,λt ht=>⟨(h.2 t ht).1,λf hf=>((h.2 t ht).2 f hf).imp (zo.succ n)⟩⟩
theorem zo.mono {n m:Nat} {a:yB} (h:zo n a) (hm:n<=m):zo m a:=by
 obtain ⟨k,rfl⟩:=Nat.exists_eq_add_of_le hm;clear hm;induction k with
 | zero=>exact h
 | succ k ih=>exact zo.succ _ _ ih
theorem znP:∀ {l:yC},zrV l->∀ x∈l,zAy x
 | [],_,x,hx=>by cases hx
 | y::r,h,x,hx=>by
  unfold zrV at h;rcases qd.1 hx with rfl | hx
  ·exact h.1
  ·exact znP h.2 x hx
theorem zrI:∀ {l:yB},zgh l->∀ x∈l,zFM x
 | [],_,x,hx=>by cases hx
 | y::r,h,x,hx=>by
  unfold zgh at h;rcases qd.1 hx with rfl | hx
  ·exact h.1
  ·exact zrI h.2 x hx
theorem zje:∀ {l:yA},zvE l->∀ x∈l,zgh x/\x.length<=zZ
 | [],_,x,hx=>by cases hx
 | y::r,h,x,hx=>by
  unfold zvE at h;rcases qd.1 hx with rfl | hx
  ·exact h.1
  ·exact zje h.2 x hx
theorem zi9:∀ {l:yD},zru l->∀ x∈l,zMN x.Value/\zgh x.Ann/\x.Ann.length<=zZ
 | [],_,x,hx=>by cases hx
 | y::r,h,x,hx=>by
  unfold zru at h;rcases qd.1 hx with rfl | hx
  ·have:=h.1; unfold zNm at this; exact ⟨this.1,this.2.1,this.2.2⟩
  ·exact zi9 h.2 x hx
theorem zuE {t:Term} (h:zFM t):wf2 t.Cf/\zrV t.Fs/\t.Fs.length<=zZ:=by
 unfold zFM at h; exact ⟨h.1,h.2.1,h.2.2⟩
theorem zpH {t:Fc} (h:zAy t):zhD t.At/\wf3 t.Exp:=by
 unfold zAy at h; exact h
theorem zsa {x:At} (h:zhD x):(zvE x.Ag/\x.Ag.length<=zZ)/\(zru x.Items/\x.Items.length<=zZ)/\zMN x.Bd/\wf3 x.Kind/\zYY x.Row/\wf3 x.Func/\wf3 x.Op:=by
 obtain ⟨k,r,a,f,i,o,b⟩:=x; unfold zhD at h; exact ⟨h.2.2.1,h.2.2.2.2.1,h.2.2.2.2.2.2,h.1,h.2.1,h.2.2.2.1,h.2.2.2.2.2.1⟩
theorem zfK {z:Int} (h0: -4611686018427387904<=z) (h:z<4611686018427387904):IntKind.i64.wrap z=z:=zWu (by omega) (by omega)
mutual
def zEk:At->Nat
 | ⟨_,_,a,_,i,_,b⟩=>i.length+a.length+b.Text.size+zpo a+zkt i
def zg1:yC->Nat
 | []=>0
 | ⟨x,_⟩::r=>zEk x+zg1 r
def zd8:yB->Nat
 | []=>0
 | ⟨_,fs⟩::r=>1+fs.length+zg1 fs+zd8 r
def zpo:yA->Nat
 | []=>0
 | a::r=>zd8 a+zpo r
def zkt:yD->Nat
 | []=>0
 | ⟨v,a⟩::r=>v.Text.size+zd8 a+zkt r
end
theorem z1E (x:At):zEk x=x.Items.length+x.Ag.length+x.Bd.Text.size+zpo x.Ag+zkt x.Items:=by cases x; rw [zEk]
theorem zLG (f:Fc) (r:yC):zg1 (f::r)=zEk f.At+zg1 r:=by cases f; rw [zg1]
theorem zLW (t:Term) (r:yB):zd8 (t::r)=1+t.Fs.length+zg1 t.Fs+zd8 r:=by cases t; rw [zd8]
theorem zV5 (a:yB) (r:yA):zpo (a::r)=zd8 a+zpo r:=by rw [zpo]
theorem zGy (w:Wd) (r:yD):zkt (w::r)=w.Value.Text.size+zd8 w.Ann+zkt r:=by cases w; rw [zkt]
theorem z8s:zpo []=0:=by rw [zpo]
theorem z6O:zkt []=0:=by rw [zkt]
theorem z3g:zg1 []=0:=by rw [zg1]
theorem z9O:zd8 []=0:=by rw [zd8]
section
variable (g:yB->Int->Int->Bool×Int) (a:yB) (limit d:Nat) (hl:limit<=1000) (hd:d<=100) (B:Nat) (hB:B<=1152921504606846976) (P:yB->Prop)
include hl hd hB
theorem w14 (x:At) (i k:Int) (hlen:x.Ag.length<=zZ) (hg:∀ y∈x.Ag,∀ l:Nat,l<=1000->∃ w:Nat,g y l d=(true,(w:Int))/\w<=B/\(w<=l->P y/\zd8 y<=w)):
  ∀ (fuel j n:Nat),x.Ag.length<j+fuel->j<=x.Ag.length->n<=2305843009213693952->∃ n':Nat,zxP g fuel a limit (d+1:Nat) n i k j x=(true,(a,(limit:Int),((d+1:Nat):Int),(n':Int),i,k,x))/\n<=n'/\n'<=max n (limit+B)/\(n'<=limit->(∀ y∈x.Ag.drop j,P y)/\n+zpo (x.Ag.drop j)<=n')
 | 0,j,n,h1,h2,h3=>by omega
 | fuel+1,j,n,h1,h2,h3=>by
  show ∃ n':Nat,(zxZ g a limit (d+1:Nat) n i k j x).ev (λx y=>zxP g fuel x.1 x.2.1 x.2.2.1 x.2.2.2.1 x.2.2.2.2.1 x.2.2.2.2.2.1 x.2.2.2.2.2.2.2.1 y.1) (λr=>(true,r)) (false,default)=_/\_
  unfold zxZ;have hml:zZ=140737488351232:=rfl;by_cases hj:j<x.Ag.length
  ·by_cases hn:n<=limit
   ·have e1:IntKind.i64.wrap ((limit:Int) - (n:Int))=((limit - n:Nat):Int):=by rw [zfK (by omega) (by omega)]; omega
    obtain ⟨w,hw,hwB,hwP⟩:=hg _ (zn hj) (limit - n) (by omega)
    have ed:IntKind.i64.wrap (((d+1:Nat):Int) - 1)=(d:Int):=by rw [zfK (by omega) (by omega)]; omega
    simp only [Wy.ev_i,Wy.ev_k,Wy.ev_h,Wy.ev_bn,Wy.ev_d,tT,hj,zn3,hn,e1,ed,hw];have e3:IntKind.i64.wrap ((n:Int)+(w:Int))=((n+w:Nat):Int):=by rw [zfK (by omega) (by omega)]; omega
    rw [e3,zD (by omega)]
    obtain ⟨n',h4,h5,h6,h7⟩:=w14 x i k hlen hg fuel (j+1) (n+w) (by omega) (by omega) (by omega)
    refine ⟨n',h4,by omega,by omega,λhn'=> ?_⟩
    obtain ⟨h8,h9⟩:=h7 hn';obtain ⟨p1,p2⟩:=hwP (by omega)
    rw [zbf hj,zV5];refine ⟨λy hy=> ?_,by omega⟩
    rcases qd.1 hy with rfl | hy
    ·exact p1
    ·exact h8 y hy
   ·simp only [Wy.ev_i,Wy.ev_k,Wy.ev_h,Wy.ev_bn,Wy.ev_d,tT,hj,zn3,hn];exact ⟨n,rfl,Nat.le_refl _,by omega,λh=>absurd h hn⟩
  ·simp only [Wy.ev_i,Wy.ev_k,Wy.ev_h,Wy.ev_bn,Wy.ev_d,tT,hj];exact ⟨n,rfl,Nat.le_refl _,by omega,λ_=>by rw [zce hj,z8s]; exact ⟨λy hy=>(by cases hy),Nat.le_refl _⟩⟩
theorem w18 (x:At) (i k:Int) (hlen:x.Items.length<=zZ) (hg:∀ y∈x.Items,y.Value.Text.size<=zZ/\∀ l:Nat,l<=1000->∃ w:Nat,g y.Ann l d=(true,(w:Int))/\w<=B/\(w<=l->P y.Ann/\zd8 y.Ann<=w)):
  ∀ (fuel j n:Nat),x.Items.length<j+fuel->j<=x.Items.length->n<=2305843009213693952->∃ n':Nat,zxD g fuel a limit (d+1:Nat) n i k j x=(true,(a,(limit:Int),((d+1:Nat):Int),(n':Int),i,k))/\n<=n'/\n'<=max n (limit+zZ+B)/\(n'<=limit->(∀ y∈x.Items.drop j,y.Value.Text.size<=1000/\P y.Ann)/\n+zkt (x.Items.drop j)<=n')
 | 0,j,n,h1,h2,h3=>by omega
 | fuel+1,j,n,h1,h2,h3=>by
  show ∃ n':Nat,(zxl g a limit (d+1:Nat) n i k j x).ev (λx y=>zxD g fuel x.1 x.2.1 x.2.2.1 x.2.2.2.1 x.2.2.2.2.1 x.2.2.2.2.2.1 x.2.2.2.2.2.2.2.1 y.1) (λr=>(true,r)) (false,default)=_/\_
  unfold zxl;have hml:zZ=140737488351232:=rfl;by_cases hj:j<x.Items.length
  ·by_cases hn:n<=limit
   ·have e1:IntKind.i64.wrap ((limit:Int) - (n:Int))=((limit - n:Nat):Int):=by rw [zfK (by omega) (by omega)]; omega
    obtain ⟨ht,hgy⟩:=hg _ (zn hj);obtain ⟨w,hw,hwB,hwP⟩:=hgy (limit - n) (by omega)
    have ed:IntKind.i64.wrap (((d+1:Nat):Int) - 1)=(d:Int):=by rw [zfK (by omega) (by omega)]; omega
    simp only [Wy.ev_i,Wy.ev_k,Wy.ev_h,Wy.ev_bn,Wy.ev_d,tT,hj,zn3,hn,e1,ed,hw];generalize hsz:(x.Items.getD j default).Value.Text.size=sz at *;have e3:IntKind.i64.wrap (IntKind.i64.wrap ((n:Int)+(sz:Int))+(w:Int))=((n+sz+w:Nat):Int):=by rw [zfK (z:=(n:Int)+(sz:Int)) (by omega) (by omega),zfK (by omega) (by omega)]; omega
    rw [e3,zD (by omega)]
    obtain ⟨n',h4,h5,h6,h7⟩:=w18 x i k hlen hg fuel (j+1) (n+sz+w) (by omega) (by omega) (by omega)
    refine ⟨n',h4,by omega,by omega,λhn'=> ?_⟩
    obtain ⟨h8,h9⟩:=h7 hn';obtain ⟨p1,p2⟩:=hwP (by omega)
    rw [zbf hj,zGy];refine ⟨λy hy=> ?_,by omega⟩
    rcases qd.1 hy with rfl | hy
    ·exact ⟨by omega,p1⟩
    ·exact h8 y hy
   ·simp only [Wy.ev_i,Wy.ev_k,Wy.ev_h,Wy.ev_bn,Wy.ev_d,tT,hj,zn3,hn];exact ⟨n,rfl,Nat.le_refl _,by omega,λh=>absurd h hn⟩
  ·simp only [Wy.ev_i,Wy.ev_k,Wy.ev_h,Wy.ev_bn,Wy.ev_d,tT,hj];exact ⟨n,rfl,Nat.le_refl _,by omega,λ_=>by rw [zce hj,z6O]; exact ⟨λy hy=>(by cases hy),Nat.le_refl _⟩⟩
theorem w9 (i:Nat) (hi:i<a.length) (hla:(a.getD i default).Fs.length<=zZ) (hg:∀ f∈(a.getD i default).Fs,f.At.Ag.length<=zZ/\f.At.Items.length<=zZ/\f.At.Bd.Text.size<=zZ/\(∀ y∈f.At.Ag,∀ l:Nat,l<=1000->∃ w:Nat,g y l d=(true,(w:Int))/\w<=B/\(w<=l->P y/\zd8 y<=w))/\
   ∀ y∈f.At.Items,y.Value.Text.size<=zZ/\∀ l:Nat,l<=1000->∃ w:Nat,g y.Ann l d=(true,(w:Int))/\w<=B/\(w<=l->P y.Ann/\zd8 y.Ann<=w)):
  ∀ (fuel k n:Nat),(a.getD i default).Fs.length<k+fuel->k<=(a.getD i default).Fs.length->n<=2305843009213693952->∃ n':Nat,zy8 g fuel a limit (d+1:Nat) n i k=(true,(a,(limit:Int),((d+1:Nat):Int),(n':Int),(i:Int)))/\n<=n'/\n'<=max n (limit+4*zZ+B)/\
   (n'<=limit->(∀ f∈(a.getD i default).Fs.drop k,(f.At.Ag.length<=1000/\f.At.Items.length<=1000/\f.At.Bd.Text.size<=1000)/\(∀ y∈f.At.Ag,P y)/\∀ y∈f.At.Items,y.Value.Text.size<=1000/\P y.Ann)/\n+zg1 ((a.getD i default).Fs.drop k)<=n')
 | 0,k,n,h1,h2,h3=>by omega
 | fuel+1,k,n,h1,h2,h3=>by
  show ∃ n':Nat,(zyZ g a limit (d+1:Nat) n i k).ev (λx y=>zy8 g fuel x.1 x.2.1 x.2.2.1 x.2.2.2.1 x.2.2.2.2.1 x.2.2.2.2.2.1) (λr=>(true,r)) (false,default)=_/\_
  unfold zyZ;have hml:zZ=140737488351232:=rfl;by_cases hk:k<(a.getD i default).Fs.length
  ·by_cases hn:n<=limit
   ·simp only [Wy.ev_i,Wy.ev_k,Wy.ev_h,Wy.ev_bn,Wy.ev_d,tT,hi,hk,zn3,hn,At.eta];obtain ⟨ha1,ha2,ha3,hgA,hgI⟩:=hg _ (zn hk);generalize hf:((a.getD i default).Fs.getD k default)=f at *
    have e0:IntKind.i64.wrap (IntKind.i64.wrap (IntKind.i64.wrap ((n:Int)+(f.At.Items.length:Int))+(f.At.Ag.length:Int))+(f.At.Bd.Text.size:Int))=((n+f.At.Items.length+f.At.Ag.length+f.At.Bd.Text.size:Nat):Int):=by
     rw [zfK (z:=(n:Int)+(f.At.Items.length:Int)) (by omega) (by omega),zfK (z:=(n:Int)+(f.At.Items.length:Int)+(f.At.Ag.length:Int)) (by omega) (by omega),zfK (by omega) (by omega)]; omega
    rw [e0];obtain ⟨n1,q1,q2,q3,q4⟩:=w14 g a limit d hl hd B hB P f.At i k ha1 hgA (a.length+limit+(d+1)+((n+f.At.Items.length+f.At.Ag.length+f.At.Bd.Text.size:Nat):Int).toNat +i+k+Int.toNat 0+f.At.Ag.length+f.At.Items.length+1) 0 (n+f.At.Items.length+f.At.Ag.length+f.At.Bd.Text.size) (by omega) (by omega) (by omega)
    rw [show ((0:Nat):Int)=(0:Int) from rfl] at q1
    rw [q1];simp only [cond_true,At.eta,Int.toNat_natCast];obtain ⟨n2,r1,r2,r3,r4⟩:=w18 g a limit d hl hd B hB P f.At i k ha2 hgI (a.length+limit+(d+1)+n1+i+k+Int.toNat 0+f.At.Ag.length+f.At.Items.length+1) 0 n1 (by omega) (by omega) (by omega)
    rw [show ((0:Nat):Int)=(0:Int) from rfl] at r1
    rw [r1];simp only [cond_true];rw [zD (by omega)]
    obtain ⟨n',h4,h5,h6,h7⟩:=w9 i hi hla hg fuel (k+1) n2 (by omega) (by omega) (by omega)
    refine ⟨n',h4,by omega,by omega,λhn'=> ?_⟩
    obtain ⟨h8,h9⟩:=h7 hn';obtain ⟨q5,q6⟩:=q4 (by omega)
    obtain ⟨r5,r6⟩:=r4 (by omega)
    rw [List.drop_zero] at q5 q6 r5 r6;rw [zbf hk,zLG,hf,z1E];refine ⟨λy hy=> ?_,by omega⟩
    rcases qd.1 hy with rfl | hy
    ·exact ⟨⟨by omega,by omega,by omega⟩,q5,r5⟩
    ·exact h8 y hy
   ·simp only [Wy.ev_i,Wy.ev_k,Wy.ev_h,Wy.ev_bn,Wy.ev_d,tT,hi,hk,zn3,hn];exact ⟨n,rfl,Nat.le_refl _,by omega,λh=>absurd h hn⟩
  ·simp only [Wy.ev_i,Wy.ev_k,Wy.ev_h,Wy.ev_bn,Wy.ev_d,tT,hi,hk];exact ⟨n,rfl,Nat.le_refl _,by omega,λ_=>by rw [zce hk,z3g]; exact ⟨λy hy=>(by cases hy),Nat.le_refl _⟩⟩
theorem w5 (hla:∀ t∈a,t.Fs.length<=zZ) (hg:∀ t∈a,∀ f∈t.Fs,f.At.Ag.length<=zZ/\f.At.Items.length<=zZ/\f.At.Bd.Text.size<=zZ/\(∀ y∈f.At.Ag,∀ l:Nat,l<=1000->∃ w:Nat,g y l d=(true,(w:Int))/\w<=B/\(w<=l->P y/\zd8 y<=w))/\
   ∀ y∈f.At.Items,y.Value.Text.size<=zZ/\∀ l:Nat,l<=1000->∃ w:Nat,g y.Ann l d=(true,(w:Int))/\w<=B/\(w<=l->P y.Ann/\zd8 y.Ann<=w)) (hlen:a.length<=zZ):
  ∀ (fuel i n:Nat),a.length<i+fuel->i<=a.length->n<=2305843009213693952->∃ n':Nat,zze g fuel a limit (d+1:Nat) n i=(true,(n':Int))/\n<=n'/\n'<=max n (limit+6*zZ+B)/\
   (n'<=limit->(n+(a.length - i)<=n'/\n+zd8 (a.drop i)<=n')/\∀ t∈a.drop i,t.Fs.length<=1000/\∀ f∈t.Fs,(f.At.Ag.length<=1000/\f.At.Items.length<=1000/\f.At.Bd.Text.size<=1000)/\(∀ y∈f.At.Ag,P y)/\∀ y∈f.At.Items,y.Value.Text.size<=1000/\P y.Ann)
 | 0,i,n,h1,h2,h3=>by omega
 | fuel+1,i,n,h1,h2,h3=>by
  show ∃ n':Nat,(zy1 g a limit (d+1:Nat) n i).ev (λx y=>zze g fuel x.1 x.2.1 x.2.2.1 x.2.2.2.1 x.2.2.2.2.1) (λr=>(true,r)) (false,default)=_/\_
  unfold zy1;have hml:zZ=140737488351232:=rfl;by_cases hi:i<a.length
  ·by_cases hn:n<=limit
   ·simp only [Wy.ev_i,Wy.ev_k,Wy.ev_h,Wy.ev_bn,Wy.ev_d,tT,hi,zn3,hn];have hla':=hla _ (zn hi)
    have e0:IntKind.i64.wrap (IntKind.i64.wrap ((n:Int)+1)+((a.getD i default).Fs.length:Int))=((n+1+(a.getD i default).Fs.length:Nat):Int):=by
     rw [zD (by omega),zfK (by omega) (by omega)]; omega
    rw [e0];obtain ⟨n1,q1,q2,q3,q4⟩:=w9 g a limit d hl hd B hB P i hi hla' (hg _ (zn hi)) (a.length+limit+(d+1)+((n+1+(a.getD i default).Fs.length:Nat):Int).toNat +i+Int.toNat 0+1) 0 (n+1+(a.getD i default).Fs.length) (by omega) (by omega) (by omega)
    rw [show ((0:Nat):Int)=(0:Int) from rfl] at q1
    rw [q1];simp only [cond_true];rw [zD (by omega)]
    obtain ⟨n',h4,h5,h6,h7⟩:=w5 hla hg hlen fuel (i+1) n1 (by omega) (by omega) (by omega)
    refine ⟨n',h4,by omega,by omega,λhn'=> ?_⟩
    obtain ⟨⟨h8,h10⟩,h9⟩:=h7 hn';obtain ⟨q5,q6⟩:=q4 (by omega)
    rw [List.drop_zero] at q5 q6;rw [zbf hi,zLW];refine ⟨⟨by omega,by omega⟩,λy hy=> ?_⟩
    rcases qd.1 hy with rfl | hy
    ·exact ⟨by omega,q5⟩
    ·exact h9 y hy
   ·simp only [Wy.ev_i,Wy.ev_k,Wy.ev_h,Wy.ev_bn,Wy.ev_d,tT,hi,zn3,hn];exact ⟨n,rfl,Nat.le_refl _,by omega,λh=>absurd h hn⟩
  ·simp only [Wy.ev_i,Wy.ev_k,Wy.ev_h,Wy.ev_bn,Wy.ev_d,tT,hi];exact ⟨n,rfl,Nat.le_refl _,by omega,λ_=>by rw [zce hi,z9O]; exact ⟨⟨by omega,Nat.le_refl _⟩,λy hy=>(by cases hy)⟩⟩
end
theorem z3p:∀ (d N:Nat),d<N->d<=12->∀ (l:Nat),l<=1000->∀ a,zgh a->a.length<=zZ->∃ w:Nat,zpk N a l d=(true,(w:Int))/\w<=(d+1)*4503599627370496/\(w<=l->zo d a/\zd8 a<=w)
 | _,0,h,_,_,_,_,_,_=>by omega
 | 0,N+1,_,_,l,hl,a,hw,hlen=>by
  rw [zGO];unfold ztO zz1;refine ⟨l+1, ?_,by omega,λh=>by omega⟩
  simp only [Wy.fin_i,Wy.fin_k];rw [zD (by omega)]; rfl
 | d+1,N+1,hN,hd,l,hl,a,hw,hlen=>by
  rw [zGO];unfold ztO zz1;have hml:zZ=140737488351232:=rfl;have ih:=λy (h1:zgh y) (h2:y.length<=zZ) l hl=>z3p d N (by omega) (by omega) l hl y h1 h2
  have e0:(((d+1:Nat):Int)==(0:Int))=false:=by
   rw [beq_eq_false_iff_ne]; omega
  obtain ⟨n',h1,h2,h3,h4⟩:=w5 (zpk N) a l d hl (by omega) ((d+1)*4503599627370496) (by omega) (zo d) (λt ht=>(zuE (zrI hw t ht)).2.2) (λt ht f hf=>by
   have hx:=zsa (zpH (znP (zuE (zrI hw t ht)).2.1 f hf)).1;refine ⟨hx.1.2,hx.2.1.2,hx.2.2.1.2.2,λy hy l hl=> ?_,λy hy=> ?_⟩
   ·have:=zje hx.1.1 y hy;exact ih y this.1 this.2 l hl
   ·have:=zi9 hx.2.1.1 y hy;exact ⟨this.1.2.2,λl hl=>ih y.Ann this.2.1 this.2.2 l hl⟩) hlen (a.length+l+(d+1)+Int.toNat 0+Int.toNat 0+1) 0 0 (by omega) (by omega) (by omega)
  rw [show ((0:Nat):Int)=(0:Int) from rfl] at h1
  refine ⟨n', ?_,by omega,λhn=> ?_⟩
  ·simp only [Wy.fin_i,Wy.fin_k,Wy.fin_bn,e0,cond_false,Int.toNat_natCast,h1,cond_true]
  ·obtain ⟨⟨h5,h12⟩,h6⟩:=h4 hn;rw [List.drop_zero] at h12;refine ⟨⟨by omega,λt ht=> ?_⟩,by omega⟩
   obtain ⟨h7,h8⟩:=h6 t (by simpa using ht)
   refine ⟨by omega,λf hf=> ?_⟩
   obtain ⟨h9,h10,h11⟩:=h8 f hf;exact ⟨⟨by omega,by omega,by omega⟩,h10,λw hw=>⟨by have:=(h11 w hw).1; omega,(h11 w hw).2⟩⟩
theorem z7J (limit:Nat) (hl:limit<=1000) (l:yA) (hll:l.length<=1000) (hw:∀ a∈l,zgh a/\a.length<=zZ):∀ (n i:Nat),l.length<i+n->i<=l.length->∃ r,zIO n limit l i=(true,r)/\((r=.inl false)\/(r=.inr ()/\∀ a∈l.drop i,zo 12 a/\zd8 a<=limit))
 | 0,i,h1,h2=>by omega
 | n+1,i,h1,h2=>by
  show ∃ r,(zJU limit l i).ev (λx y=>zIO n x.1 x.2.1 x.2.2.1) (λr=>(true,r)) (false,.inl default)=(true,r)/\_
  unfold zJU;by_cases hi:i<l.length
  ·obtain ⟨w,q1,q2,q3⟩:=z3p 12 1000 (by omega) (by omega) limit hl _ (hw _ (zn hi)).1 (hw _ (zn hi)).2
   have q1':zJq (l.getD i default) (limit:Int) 12=(true,(w:Int)):=q1;simp only [Wy.ev_i,Wy.ev_k,Wy.ev_h,Wy.ev_bn,Wy.ev_d,tT,hi,q1',zjD];by_cases hg:limit<w
   ·simp only [hg,decide_true,cond_true];exact ⟨_,rfl,.inl rfl⟩
   ·simp only [hg,decide_false,cond_false];rw [zD (by omega)]
    obtain ⟨r,h3,h4⟩:=z7J limit hl l hll hw n (i+1) (by omega) (by omega)
    refine ⟨r,h3, ?_⟩;rcases h4 with h4 | ⟨h4,h5⟩
    ·exact .inl h4
    ·refine .inr ⟨h4,λa ha=> ?_⟩
     rw [zbf hi] at ha;rcases qd.1 ha with rfl | ha
     ·exact ⟨(q3 (by omega)).1,by have:=(q3 (by omega)).2; omega⟩
     ·exact h5 a ha
  ·simp only [Wy.ev_i,Wy.ev_k,Wy.ev_h,Wy.ev_bn,Wy.ev_d,tT,hi];exact ⟨_,rfl,.inr ⟨rfl,λa ha=>by rw [zce hi] at ha; cases ha⟩⟩
theorem zbfH (limit:Nat) (hl:limit<=1000) (l:yA) (hll:l.length<=1000) (hw:∀ a∈l,zgh a/\a.length<=zZ):∃ b,zAT limit l=(true,b)/\(b=true->∀ a∈l,zo 12 a/\zd8 a<=limit):=by
 unfold zAT zXH;obtain ⟨r,h1,h2⟩:=z7J limit hl l hll hw (limit+l.length+Int.toNat 0+1) 0 (by omega) (by omega)
 rw [show ((0:Nat):Int)=(0:Int) from rfl] at h1
 rw [Wy.fin_bn];simp only [Int.toNat_natCast,h1,cond_true];rcases h2 with rfl | ⟨rfl,h2⟩
 ·exact ⟨false,rfl,λh=>by cases h⟩
 ·exact ⟨true,rfl,λ_ a ha=>h2 a (by simpa using ha)⟩
mutual
def zeR:At->Nat
 | ⟨_,_,a,_,i,_,_⟩=>zeM a+zc3 i
def zbH:yC->Nat
 | []=>0
 | ⟨x,_⟩::r=>zeR x+zbH r
def zN:yB->Nat
 | []=>0
 | ⟨_,fs⟩::r=>1+fs.length+zbH fs+zN r
def zeM:yA->Nat
 | []=>0
 | a::r=>zN a+zeM r
def zc3:yD->Nat
 | []=>0
 | ⟨_,a⟩::r=>1+zN a+zc3 r
end
theorem zgS (x:At):zeR x=zeM x.Ag+zc3 x.Items:=by cases x; rw [zeR]
theorem zcR (f:Fc) (r:yC):zbH (f::r)=zeR f.At+zbH r:=by cases f; rw [zbH]
theorem zfq (t:Term) (r:yB):zN (t::r)=1+t.Fs.length+zbH t.Fs+zN r:=by cases t; rw [zN]
theorem zeA (a:yB) (r:yA):zeM (a::r)=zN a+zeM r:=by rw [zeM]
theorem zhS (w:Wd) (r:yD):zc3 (w::r)=1+zN w.Ann+zc3 r:=by cases w; rw [zc3]
theorem zgq:zeM []=0:=by rw [zeM]
theorem zfe:zc3 []=0:=by rw [zc3]
theorem zia:zbH []=0:=by rw [zbH]
theorem zuD:zN []=0:=by rw [zN]
theorem z1p (l:yA):∀ n:Nat,l.foldl (λs t=>s+zN t) n=n+zeM l:=by
 induction l with
 | nil=>intro n; rw [zgq]; rfl
 | cons a r ih=>intro n; rw [List.foldl_cons,ih,zeA]; omega
theorem zYk (l:yD):∀ n:Nat,l.foldl (λs t=>s+1+zN t.Ann) n=n+zc3 l:=by
 induction l with
 | nil=>intro n; rw [zfe]; rfl
 | cons a r ih=>intro n; rw [List.foldl_cons,ih,zhS]; omega
theorem z5s (l:yC):∀ n:Nat,l.foldl (λs t=>s+zeR t.At) n=n+zbH l:=by
 induction l with
 | nil=>intro n; rw [zia]; rfl
 | cons a r ih=>intro n; rw [List.foldl_cons,ih,zcR]; omega
theorem z3v (l:yB):∀ n:Nat,l.foldl (λs t=>s+1+t.Fs.length+zbH t.Fs) n=n+zN l:=by
 induction l with
 | nil=>intro n; rw [zuD]; rfl
 | cons a r ih=>intro n; rw [List.foldl_cons,ih,zfq]; omega
theorem znA {n m:Nat} (h:n+m<=4611686018427387904):IntKind.i64.wrap ((n:Int)+(m:Int))=((n+m:Nat):Int):=by
 rw [zWu (by omega) (by omega)]; omega
theorem zgl {i:Nat} (h:i<4611686018427387904):IntKind.i64.wrap ((i:Int)+1)=((i+1:Nat):Int):=zD h
section
variable (g:yB->Bool×Int)
theorem zbdL (l:yA) (hl:l.length<=1000000) (hg:∀ y∈l,g y=(true,(zN y:Int))) (t12:yB) (t13 t14:Int) (t25:yC) (t26 t27:Int) (f:Fc) (fuel n:Nat) (hf:l.length<fuel) (hn:n+zeM l<=4611686018427387904):
  zAR g fuel n t12 t13 t14 t25 t26 t27 l l.length 0 f=(true,(((n+zeM l:Nat):Int),t12,t13,t14,t25,t26,t27,f)):=by
 have h:=zcP (W:=ztH g) (z:=default) (l:=l) (λi (n:Nat)=>((n:Int),(),t12,t13,t14,t25,t26,t27,l,(l.length:Int),(i:Int),())) (λ_ _=>(f,())) (λy n=>.inl (n+zN y)) (λn=>((n:Int),t12,t13,t14,t25,t26,t27,f)) (λi n=>n+zeM (l.drop i)<=4611686018427387904)
  (λi n hi hI=>.inl ⟨_,rfl,by rw [zbf hi,zeA] at hI; omega,λH K D=>by
   rw [zbf hi,zeA] at hI;show (zju g n t12 t13 t14 t25 t26 t27 l l.length i f).ev H K D=_;unfold zju;simp only [Wy.ev_i,Wy.ev_k,Wy.ev_h,Wy.ev_bn,Wy.ev_d,tT,hi,hg _ (zn hi)];rw [znA (by omega),zgl (by omega)]⟩)
  (λn hI H K D=>by
   show (zju g n t12 t13 t14 t25 t26 t27 l l.length l.length f).ev H K D=_;unfold zju;simp only [Wy.ev_i,Wy.ev_k,tT,Nat.lt_irrefl]) fuel 0 n (by omega) (Nat.zero_le _) (by simpa using hn)
 rw [List.drop_zero,zcO,z1p] at h;exact h
theorem zbd4 (l:yD) (hl:l.length<=1000000) (hg:∀ y∈l,g y.Ann=(true,(zN y.Ann:Int))) (t12:yB) (t13 t14:Int) (t25:yC) (t26 t27:Int) (fuel n:Nat) (hf:l.length<fuel) (hn:n+zc3 l<=4611686018427387904):
  zBa g fuel n t12 t13 t14 t25 t26 t27 l l.length 0=(true,(((n+zc3 l:Nat):Int),t12,t13,t14,t25,t26,t27)):=by
 have h:=zcP (W:=ztp g) (z:=default) (l:=l) (λi (n:Nat)=>((n:Int),t12,t13,t14,t25,t26,t27,l,(l.length:Int),(i:Int),())) (λ_ _=>()) (λy n=>.inl (n+1+zN y.Ann)) (λn=>((n:Int),t12,t13,t14,t25,t26,t27)) (λi n=>n+zc3 (l.drop i)<=4611686018427387904)
  (λi n hi hI=>.inl ⟨_,rfl,by rw [zbf hi,zhS] at hI; omega,λH K D=>by
   rw [zbf hi,zhS] at hI;show (zjE g n t12 t13 t14 t25 t26 t27 l l.length i).ev H K D=_;unfold zjE;simp only [Wy.ev_i,Wy.ev_k,Wy.ev_h,Wy.ev_bn,Wy.ev_d,tT,hi,hg _ (zn hi)];rw [zgl (by omega),show (1:Int)=((1:Nat):Int) from rfl,znA (by omega),znA (by omega), <- Nat.add_assoc]⟩)
  (λn hI H K D=>by
   show (zjE g n t12 t13 t14 t25 t26 t27 l l.length l.length).ev H K D=_;unfold zjE;simp only [Wy.ev_i,Wy.ev_k,tT,Nat.lt_irrefl]) fuel 0 n (by omega) (Nat.zero_le _) (by simpa using hn)
 rw [List.drop_zero,zcO,zYk] at h;exact h
theorem zbfY (l:yC) (hl:l.length<=1000000) (hg:∀ f∈l,(f.At.Ag.length<=1000000/\f.At.Items.length<=1000000)/\(∀ y∈f.At.Ag,g y=(true,(zN y:Int)))/\∀ y∈f.At.Items,g y.Ann=(true,(zN y.Ann:Int))) (t12:yB) (t13 t14:Int) (fuel n:Nat) (hf:l.length<fuel) (hn:n+zbH l<=4611686018427387904):
  zBC g fuel n t12 t13 t14 l l.length 0=(true,(((n+zbH l:Nat):Int),t12,t13,t14)):=by
 have h:=zcP (W:=zvc g) (z:=default) (l:=l) (λi (n:Nat)=>((n:Int),t12,t13,t14,l,(l.length:Int),(i:Int),())) (λ_ _=>()) (λy n=>.inl (n+zeR y.At)) (λn=>((n:Int),t12,t13,t14)) (λi n=>n+zbH (l.drop i)<=4611686018427387904)
  (λi n hi hI=>.inl ⟨_,rfl,by rw [zbf hi,zcR] at hI; omega,λH K D=>by
   rw [zbf hi,zcR,zgS] at hI;obtain ⟨⟨h1,h2⟩,h3,h4⟩:=hg _ (zn hi);show (zkA g n t12 t13 t14 l l.length i).ev H K D=_;unfold zkA;simp only [Wy.ev_i,Wy.ev_k,Wy.ev_h,Wy.ev_bn,Wy.ev_d,tT,hi,At.eta];rw [zbdL g _ h1 h3 _ _ _ _ _ _ _ _ _ (by omega) (by omega)]
   simp only [cond_true,Int.toNat_natCast];rw [zbd4 g _ h2 h4 _ _ _ _ _ _ _ _ (by omega) (by omega)]
   simp only [cond_true];rw [zgl (by omega),zgS,Nat.add_assoc]⟩)
  (λn hI H K D=>by
   show (zkA g n t12 t13 t14 l l.length l.length).ev H K D=_;unfold zkA;simp only [Wy.ev_i,Wy.ev_k,tT,Nat.lt_irrefl]) fuel 0 n (by omega) (Nat.zero_le _) (by simpa using hn)
 rw [List.drop_zero,zcO,z5s] at h;exact h
theorem zbfK (l:yB) (hl:l.length<=1000000) (hg:∀ t∈l,t.Fs.length<=1000000/\∀ f∈t.Fs,(f.At.Ag.length<=1000000/\f.At.Items.length<=1000000)/\(∀ y∈f.At.Ag,g y=(true,(zN y:Int)))/\∀ y∈f.At.Items,g y.Ann=(true,(zN y.Ann:Int))) (fuel n:Nat) (hf:l.length<fuel) (hn:n+zN l<=4611686018427387904):
  zCi g fuel n l l.length 0=(true,((n+zN l:Nat):Int)):=by
 have h:=zcP (W:=zvf g) (z:=default) (l:=l) (λi (n:Nat)=>((n:Int),l,(l.length:Int),(i:Int),())) (λ_ _=>()) (λy n=>.inl (n+1+y.Fs.length+zbH y.Fs)) (λn=>(n:Int)) (λi n=>n+zN (l.drop i)<=4611686018427387904)
  (λi n hi hI=>.inl ⟨_,rfl,by rw [zbf hi,zfq] at hI; omega,λH K D=>by
   rw [zbf hi,zfq] at hI;obtain ⟨h1,h3⟩:=hg _ (zn hi);show (zkx g n l l.length i).ev H K D=_;unfold zkx;simp only [Wy.ev_i,Wy.ev_k,Wy.ev_h,Wy.ev_bn,Wy.ev_d,tT,hi,At.eta];rw [show (1:Int)=((1:Nat):Int) from rfl,znA (n:=1) (by omega),znA (by omega)]
   rw [zbfY g _ h1 h3 _ _ _ _ _ (by omega) (by omega)]
   simp only [cond_true];rw [show ((1:Nat):Int)=(1:Int) from rfl,zgl (by omega),Nat.add_assoc n 1]⟩)
  (λn hI H K D=>by
   show (zkx g n l l.length l.length).ev H K D=_;unfold zkx;simp only [Wy.ev_i,Wy.ev_k,tT,Nat.lt_irrefl]) fuel 0 n (by omega) (Nat.zero_le _) (by simpa using hn)
 rw [List.drop_zero,zcO,z3v] at h;exact h
theorem zbcv (x:At) (hl:x.Ag.length<=1000000) (hg:∀ y∈x.Ag,g y=(true,(zN y:Int))) (a:yB) (i k:Int) (fuel n:Nat) (hf:x.Ag.length<fuel) (hn:n+zeM x.Ag<=4611686018427387904):
  zIs g fuel a n i k 0 x=(true,(a,((n+zeM x.Ag:Nat):Int),i,k,x)):=by
 have h:=zcP (W:=zz7 g) (z:=default) (l:=x.Ag) (λj (n:Nat)=>(a,(n:Int),i,k,(),(j:Int),())) (λ_ _=>(x,())) (λy n=>.inl (n+zN y)) (λn=>(a,(n:Int),i,k,x)) (λi n=>n+zeM (x.Ag.drop i)<=4611686018427387904)
  (λj n hi hI=>.inl ⟨_,rfl,by rw [zbf hi,zeA] at hI; omega,λH K D=>by
   rw [zbf hi,zeA] at hI;show (zqm g a n i k j x).ev H K D=_;unfold zqm;simp only [Wy.ev_i,Wy.ev_k,Wy.ev_h,Wy.ev_bn,Wy.ev_d,tT,hi,hg _ (zn hi)];rw [znA (by omega),zgl (by omega)]⟩)
  (λn hI H K D=>by
   show (zqm g a n i k x.Ag.length x).ev H K D=_;unfold zqm;simp only [Wy.ev_i,Wy.ev_k,tT,Nat.lt_irrefl]) fuel 0 n (by omega) (Nat.zero_le _) (by simpa using hn)
 rw [List.drop_zero,zcO,z1p] at h;exact h
theorem zbcz (x:At) (hl:x.Items.length<=1000000) (hg:∀ y∈x.Items,g y.Ann=(true,(zN y.Ann:Int))) (a:yB) (i k:Int) (fuel n:Nat) (hf:x.Items.length<fuel) (hn:n+zc3 x.Items<=4611686018427387904):
  zIL g fuel a n i k 0 x=(true,(a,((n+zc3 x.Items:Nat):Int),i,k)):=by
 have h:=zcP (W:=zz8 g) (z:=default) (l:=x.Items) (λj (n:Nat)=>(a,(n:Int),i,k,(),(j:Int),())) (λ_ _=>(x,())) (λy n=>.inl (n+1+zN y.Ann)) (λn=>(a,(n:Int),i,k)) (λi n=>n+zc3 (x.Items.drop i)<=4611686018427387904)
  (λj n hi hI=>.inl ⟨_,rfl,by rw [zbf hi,zhS] at hI; omega,λH K D=>by
   rw [zbf hi,zhS] at hI;show (zpJ g a n i k j x).ev H K D=_;unfold zpJ;simp only [Wy.ev_i,Wy.ev_k,Wy.ev_h,Wy.ev_bn,Wy.ev_d,tT,hi,hg _ (zn hi)];rw [zgl (i:=j) (by omega),zgl (i:=n) (by omega),znA (by omega)]⟩)
  (λn hI H K D=>by
   show (zpJ g a n i k x.Items.length x).ev H K D=_;unfold zpJ;simp only [Wy.ev_i,Wy.ev_k,tT,Nat.lt_irrefl]) fuel 0 n (by omega) (Nat.zero_le _) (by simpa using hn)
 rw [List.drop_zero,zcO,zYk] at h;exact h
theorem zIE:∀ (a:yB) (i:Nat),i<a.length->(a.getD i default).Fs.length<=zdY a
 | [],i,h=>by simp at h
 | t::r,0,h=>by
  have:∀ l:yC,l.length<=z5N l:=λl=>by
   induction l with
   | nil=>exact Nat.le_refl _
   | cons f r ih=>simp only [z5N,qf]; omega
  have:=this t.Fs;simp only [zdY,List.getD_cons_zero]; omega
 | t::r,i+1,h=>by
  have:=zIE r i (by simpa using h)
  simp only [zdY,List.getD_cons_succ]; omega
theorem foldl_factors' (l:yC):∀ n:Nat,l.foldl (λs t=>s+1+zeR t.At) n=n+l.length+zbH l:=by
 induction l with
 | nil=>intro n; rw [zia]; rfl
 | cons a r ih=>intro n; rw [List.foldl_cons,ih,zcR,qf]; omega
theorem zbdC (a:yB) (i:Nat) (hi:i<a.length) (hla:a.length<=1000000) (l:yC) (el:(a.getD i default).Fs=l) (hl:l.length<=1000000) (hg:∀ f∈l,(f.At.Ag.length<=1000000/\f.At.Items.length<=1000000)/\(∀ y∈f.At.Ag,g y=(true,(zN y:Int)))/\∀ y∈f.At.Items,g y.Ann=(true,(zN y.Ann:Int))) (fuel n:Nat) (hf:l.length<fuel) (hn:n+l.length+zbH l<=4611686018427387904):
  zLA g fuel a n i 0=(true,(a,((n+l.length+zbH l:Nat):Int),(i:Int))):=by
 have h:=zcP (W:=zCI g) (z:=default) (l:=l) (λk (n:Nat)=>(a,(n:Int),(i:Int),(k:Int),())) (λ_ _=>()) (λy n=>.inl (n+1+zeR y.At)) (λn=>(a,(n:Int),(i:Int))) (λk n=>n+(l.drop k).length+zbH (l.drop k)<=4611686018427387904)
  (λk n hk hI=>.inl ⟨_,rfl,by rw [zbf hk,zcR,qf] at hI; omega,λH K D=>by
   rw [zbf hk,zcR,zgS,qf] at hI;obtain ⟨⟨h1,h2⟩,h3,h4⟩:=hg _ (zn hk);show (zrZ g a n i k).ev H K D=_;unfold zrZ;simp only [Wy.ev_i,Wy.ev_k,Wy.ev_h,Wy.ev_bn,Wy.ev_d,tT,hi,el,hk,At.eta];rw [zgl (i:=n) (by omega)]
   rw [zbcv g _ h1 h3 _ _ _ _ _ (by omega) (by omega)]
   simp only [cond_true,Int.toNat_natCast,At.eta];rw [zbcz g _ h2 h4 _ _ _ _ _ (by omega) (by omega)]
   simp only [cond_true];rw [zgl (by omega),zgS,Nat.add_assoc (n+1)]⟩)
  (λn hI H K D=>by
   show (zrZ g a n i l.length).ev H K D=_;unfold zrZ;simp only [Wy.ev_i,Wy.ev_k,tT,hi,el,Nat.lt_irrefl]) fuel 0 n (by omega) (Nat.zero_le _) (by simpa using hn)
 rw [List.drop_zero,zcO,foldl_factors'] at h;exact h
theorem zbeG (l:yB) (hl:l.length<=1000000) (hg:∀ t∈l,t.Fs.length<=1000000/\∀ f∈t.Fs,(f.At.Ag.length<=1000000/\f.At.Items.length<=1000000)/\(∀ y∈f.At.Ag,g y=(true,(zN y:Int)))/\∀ y∈f.At.Items,g y.Ann=(true,(zN y.Ann:Int))) (fuel n:Nat) (hf:l.length<fuel) (hn:n+zN l<=4611686018427387904):
  zLe g fuel l n 0=(true,((n+zN l:Nat):Int)):=by
 have h:=zcP (W:=zCt g) (z:=default) (l:=l) (λi (n:Nat)=>(l,(n:Int),(i:Int),())) (λ_ _=>()) (λy n=>.inl (n+1+y.Fs.length+zbH y.Fs)) (λn=>(n:Int)) (λi n=>n+zN (l.drop i)<=4611686018427387904)
  (λi n hi hI=>.inl ⟨_,rfl,by rw [zbf hi,zfq] at hI; omega,λH K D=>by
   rw [zbf hi,zfq] at hI;obtain ⟨h1,h3⟩:=hg _ (zn hi);have hz:=zIE l i hi;show (zrJ g l n i).ev H K D=_;unfold zrJ;simp only [Wy.ev_i,Wy.ev_k,Wy.ev_h,Wy.ev_bn,Wy.ev_d,tT,hi,At.eta];rw [zgl (i:=n) (by omega)]
   rw [zbdC g l i hi hl _ rfl h1 h3 _ _ (by omega) (by omega)]
   simp only [cond_true];rw [zgl (by omega)]⟩)
  (λn hI H K D=>by
   show (zrJ g l n l.length).ev H K D=_;unfold zrJ;simp only [Wy.ev_i,Wy.ev_k,tT,Nat.lt_irrefl]) fuel 0 n (by omega) (Nat.zero_le _) (by simpa using hn)
 rw [List.drop_zero,zcO,z3v] at h;exact h
end
theorem z8D {l:yA} {y:yB} (h:y∈l):zN y<=zeM l:=by
 induction l with
 | nil=>cases h
 | cons a r ih=>
  rw [zeA];rcases qd.1 h with rfl | h
  ·omega
  ·have:=ih h; omega
theorem z5U {l:yD} {y:Wd} (h:y∈l):zN y.Ann<=zc3 l:=by
 induction l with
 | nil=>cases h
 | cons a r ih=>
  rw [zhS];rcases qd.1 h with rfl | h
  ·omega
  ·have:=ih h; omega
theorem zOg {l:yC} {y:Fc} (h:y∈l):zeR y.At<=zbH l:=by
 induction l with
 | nil=>cases h
 | cons a r ih=>
  rw [zcR];rcases qd.1 h with rfl | h
  ·omega
  ·have:=ih h; omega
theorem zbar {l:yB} {y:Term} (h:y∈l):zbH y.Fs<=zN l:=by
 induction l with
 | nil=>cases h
 | cons a r ih=>
  rw [zfq];rcases qd.1 h with rfl | h
  ·omega
  ·have:=ih h; omega
theorem z2Y {a:yB} {t:Term} {f:Fc} (ht:t∈a) (hf:f∈t.Fs):zeM f.At.Ag+zc3 f.At.Items<=zN a:=by
 have h1:=zbar ht; have h2:=zOg hf; rw [zgS] at h2; omega
theorem zMp {d:Nat} {a:yB} (h:zo (d+1) a) {t:Term} (ht:t∈a):t.Fs.length<=1000000/\∀ f∈t.Fs,(f.At.Ag.length<=1000000/\f.At.Items.length<=1000000)/\(∀ y∈f.At.Ag,zo d y)/\∀ y∈f.At.Items,zo d y.Ann:=
 ⟨(h.2 t ht).1,λf hf=>have q:=(h.2 t ht).2 f hf; ⟨⟨q.1.1,q.1.2.1⟩,q.2.1,λy hy=>(q.2.2 y hy).2⟩⟩
theorem zZB:∀ (n d:Nat) (a:yB),zo d a->d<=n->zN a<=4611686018427387904->zkP n a=(true,(zN a:Int))/\zt2 n a=(true,(zN a:Int))
 | n,0,a,h,hd,hs=>h.elim
 | 0,d+1,a,h,hd,hs=>by omega
 | n+1,d+1,a,h,hd,hs=>by
  have hg:=λy (hy:zo d y) (hs:zN y<=4611686018427387904)=>zZB n d y hy (by omega) hs
  have hsub:∀ t∈a,t.Fs.length<=1000000/\∀ f∈t.Fs,(f.At.Ag.length<=1000000/\f.At.Items.length<=1000000)/\(∀ y∈f.At.Ag,zo d y/\zN y<=4611686018427387904)/\∀ y∈f.At.Items,zo d y.Ann/\zN y.Ann<=4611686018427387904:=λt ht=>by
   obtain ⟨h1,h2⟩:=zMp h ht;refine ⟨h1,λf hf=> ?_⟩
   obtain ⟨h3,h4,h5⟩:=h2 f hf;have h6:=z2Y ht hf;exact ⟨h3,λy hy=>⟨h4 y hy,by have:=z8D hy; omega⟩,λy hy=>⟨h5 y hy,by have:=z5U hy; omega⟩⟩
  constructor
  ·rw [zQ6];unfold zth zDg
   have h1:=zbfK (zkP n) a h.1 (λt ht=>⟨(hsub t ht).1,λf hf=>⟨((hsub t ht).2 f hf).1,λy hy=>(hg y (((hsub t ht).2 f hf).2.1 y hy).1 (((hsub t ht).2 f hf).2.1 y hy).2).1,λy hy=>(hg _ (((hsub t ht).2 f hf).2.2 y hy).1 (((hsub t ht).2 f hf).2.2 y hy).2).1⟩⟩)
    (Int.toNat 0+a.length+(Int.ofNat a.length).toNat +Int.toNat 0+1) 0 (by omega) (by omega)
   rw [show ((0:Nat):Int)=(0:Int) from rfl,Nat.zero_add] at h1
   rw [Wy.fin_bn,show Int.ofNat a.length=(a.length:Int) from rfl] at *
   rw [h1]; rfl
  ·rw [z1J];unfold zCq zOu
   have h1:=zbeG (zt2 n) a h.1 (λt ht=>⟨(hsub t ht).1,λf hf=>⟨((hsub t ht).2 f hf).1,λy hy=>(hg y (((hsub t ht).2 f hf).2.1 y hy).1 (((hsub t ht).2 f hf).2.1 y hy).2).2,λy hy=>(hg _ (((hsub t ht).2 f hf).2.2 y hy).1 (((hsub t ht).2 f hf).2.2 y hy).2).2⟩⟩)
    (a.length+Int.toNat 0+Int.toNat 0+1+zdY a) 0 (by omega) (by omega)
   rw [show ((0:Nat):Int)=(0:Int) from rfl,Nat.zero_add] at h1
   rw [Wy.fin_bn,h1]; rfl
mutual
def zni:At->Nat
 | ⟨k,_,a,_,i,_,_⟩=>if k=0 then 0 else 1+max (zlE a) (zkp i)
def zc7:yC->Nat
 | []=>0
 | ⟨x,_⟩::r=>max (zni x) (zc7 r)
def zbo:yB->Nat
 | []=>0
 | ⟨_,fs⟩::r=>max (zc7 fs) (zbo r)
def zlE:yA->Nat
 | []=>0
 | a::r=>max (zbo a) (zlE r)
def zkp:yD->Nat
 | []=>0
 | ⟨_,a⟩::r=>max (zbo a) (zkp r)
end
theorem zCE (x:At):zni x=if x.Kind=0 then 0 else 1+max (zlE x.Ag) (zkp x.Items):=by cases x; rw [zni]
theorem ziR (f:Fc) (r:yC):zc7 (f::r)=max (zni f.At) (zc7 r):=by cases f; rw [zc7]
theorem zwc (t:Term) (r:yB):zbo (t::r)=max (zc7 t.Fs) (zbo r):=by cases t; rw [zbo]
theorem zCe (a:yB) (r:yA):zlE (a::r)=max (zbo a) (zlE r):=by rw [zlE]
theorem zzP (w:Wd) (r:yD):zkp (w::r)=max (zbo w.Ann) (zkp r):=by cases w; rw [zkp]
theorem zLU:zlE []=0:=by rw [zlE]
theorem zIZ:zkp []=0:=by rw [zkp]
theorem zpr:zc7 []=0:=by rw [zc7]
theorem zHG:zbo []=0:=by rw [zbo]
theorem zbaE (l:yA):∀ n:Nat,l.foldl (λs t=>max s (zbo t)) n=max n (zlE l):=by
 induction l with
 | nil=>intro n; rw [zLU]; exact (Nat.max_zero n).symm
 | cons a r ih=>intro n; rw [List.foldl_cons,ih,zCe]; omega
theorem z8E (l:yD):∀ n:Nat,l.foldl (λs t=>max s (zbo t.Ann)) n=max n (zkp l):=by
 induction l with
 | nil=>intro n; rw [zIZ]; exact (Nat.max_zero n).symm
 | cons a r ih=>intro n; rw [List.foldl_cons,ih,zzP]; omega
theorem z8G (l:yA):∀ n:Nat,l.foldl (λs t=>max s (1+zbo t)) (1+n)=1+max n (zlE l):=by
 induction l with
 | nil=>intro n; rw [zLU]; simp
 | cons a r ih=>intro n; rw [List.foldl_cons,show max (1+n) (1+zbo a)=1+max n (zbo a) by omega,ih,zCe]; omega
theorem z6u (l:yD):∀ n:Nat,l.foldl (λs t=>max s (1+zbo t.Ann)) (1+n)=1+max n (zkp l):=by
 induction l with
 | nil=>intro n; rw [zIZ]; simp
 | cons a r ih=>intro n; rw [List.foldl_cons,show max (1+n) (1+zbo a.Ann)=1+max n (zbo a.Ann) by omega,ih,zzP]; omega
theorem zRS (l:yC):∀ n:Nat,l.foldl (λs t=>max s (zni t.At)) n=max n (zc7 l):=by
 induction l with
 | nil=>intro n; rw [zpr]; exact (Nat.max_zero n).symm
 | cons a r ih=>intro n; rw [List.foldl_cons,ih,ziR]; omega
theorem z3L (l:yB):∀ n:Nat,l.foldl (λs t=>max s (zc7 t.Fs)) n=max n (zbo l):=by
 induction l with
 | nil=>intro n; rw [zHG]; exact (Nat.max_zero n).symm
 | cons a r ih=>intro n; rw [List.foldl_cons,ih,zwc]; omega
theorem zWs (a b:Nat):(if (a:Int)>(b:Int) then (a:Int) else (b:Int))=((max b a:Nat):Int):=by split <;>omega
theorem z0P {d:Nat}:∀ l:yA,(∀ y∈l,zbo y<=d)->zlE l<=d:=λl=>by
 induction l with
 | nil=>intro _; rw [zLU]; omega
 | cons y r ih=>intro hy; rw [zCe]; have h1:=hy y (by simp); have h2:=ih λz hz=>hy z (by simp [hz]); omega
theorem zYo {d:Nat}:∀ l:yD,(∀ y∈l,zbo y.Ann<=d)->zkp l<=d:=λl=>by
 induction l with
 | nil=>intro _; rw [zIZ]; omega
 | cons y r ih=>intro hy; rw [zzP]; have h1:=hy y (by simp); have h2:=ih λz hz=>hy z (by simp [hz]); omega
theorem z5z {d:Nat}:∀ l:yC,(∀ y∈l,zni y.At<=d)->zc7 l<=d:=λl=>by
 induction l with
 | nil=>intro _; rw [zpr]; omega
 | cons y r ih=>intro hy; rw [ziR]; have h1:=hy y (by simp); have h2:=ih λz hz=>hy z (by simp [hz]); omega
theorem zba2 {d:Nat}:∀ l:yB,(∀ y∈l,zc7 y.Fs<=d)->zbo l<=d:=λl=>by
 induction l with
 | nil=>intro _; rw [zHG]; omega
 | cons y r ih=>intro hy; rw [zwc]; have h1:=hy y (by simp); have h2:=ih λz hz=>hy z (by simp [hz]); omega
theorem zPJ:∀ (d:Nat) (a:yB),zo d a->zbo a<=d
 | 0,a,h=>h.elim
 | d+1,a,h=>zba2 a λt ht=>z5z _ λf hf=>by
  obtain ⟨_,h2⟩:=zMp h ht;obtain ⟨_,h4,h5⟩:=h2 f hf;have q1:=z0P f.At.Ag λy hy=>zPJ d y (h4 y hy)
  have q2:=zYo f.At.Items λy hy=>zPJ d y.Ann (h5 y hy)
  rw [zCE]; split <;>omega
section
variable (g:yB->Bool×Int)
theorem zbga (l:yA) (hl:l.length<=1000000) (hg:∀ y∈l,g y=(true,(zbo y:Int))) (nn:Int) (t13:yB) (t14 t15:Int) (t20:yC) (t21 t22:Int) (f:Fc) (fuel n:Nat) (hf:l.length<fuel):
  zxV g fuel nn n t13 t14 t15 t20 t21 t22 l l.length 0 f=(true,(nn,((max n (zlE l):Nat):Int),t13,t14,t15,t20,t21,t22,f)):=by
 have h:=zcP (W:=zqh g) (z:=default) (l:=l) (λi (n:Nat)=>(nn,(),(n:Int),t13,t14,t15,t20,t21,t22,l,(l.length:Int),(i:Int),())) (λ_ _=>(f,())) (λy n=>.inl (max n (zbo y))) (λn=>(nn,(n:Int),t13,t14,t15,t20,t21,t22,f)) (λi n=>True)
  (λi n hi hI=>.inl ⟨_,rfl,trivial,λH K D=>by
   show (zhF g nn n t13 t14 t15 t20 t21 t22 l l.length i f).ev H K D=_;unfold zhF;simp only [Wy.ev_i,Wy.ev_k,Wy.ev_h,Wy.ev_bn,Wy.ev_d,tT,hi,hg _ (zn hi),zWs];rw [zgl (by omega)]⟩)
  (λn hI H K D=>by
   show (zhF g nn n t13 t14 t15 t20 t21 t22 l l.length l.length f).ev H K D=_;unfold zhF;simp only [Wy.ev_i,Wy.ev_k,tT,Nat.lt_irrefl]) fuel 0 n (by omega) (Nat.zero_le _) trivial
 rw [List.drop_zero,zcO,zbaE] at h;exact h
theorem zbe5 (l:yD) (hl:l.length<=1000000) (hg:∀ y∈l,g y.Ann=(true,(zbo y.Ann:Int))) (nn:Int) (t13:yB) (t14 t15:Int) (t20:yC) (t21 t22:Int) (fuel n:Nat) (hf:l.length<fuel):
  zxj g fuel nn n t13 t14 t15 t20 t21 t22 l l.length 0=(true,(nn,((max n (zkp l):Nat):Int),t13,t14,t15,t20,t21,t22)):=by
 have h:=zcP (W:=zpO g) (z:=default) (l:=l) (λi (n:Nat)=>(nn,(n:Int),t13,t14,t15,t20,t21,t22,l,(l.length:Int),(i:Int),())) (λ_ _=>()) (λy n=>.inl (max n (zbo y.Ann))) (λn=>(nn,(n:Int),t13,t14,t15,t20,t21,t22)) (λi n=>True)
  (λi n hi hI=>.inl ⟨_,rfl,trivial,λH K D=>by
   show (zhJ g nn n t13 t14 t15 t20 t21 t22 l l.length i).ev H K D=_;unfold zhJ;simp only [Wy.ev_i,Wy.ev_k,Wy.ev_h,Wy.ev_bn,Wy.ev_d,tT,hi,hg _ (zn hi),zWs];rw [zgl (by omega)]⟩)
  (λn hI H K D=>by
   show (zhJ g nn n t13 t14 t15 t20 t21 t22 l l.length l.length).ev H K D=_;unfold zhJ;simp only [Wy.ev_i,Wy.ev_k,tT,Nat.lt_irrefl]) fuel 0 n (by omega) (Nat.zero_le _) trivial
 rw [List.drop_zero,zcO,z8E] at h;exact h
def zQu (x:At):Prop:=(x.Ag.length<=1000000/\x.Items.length<=1000000)/\(zni x<=1000/\(∀ y∈x.Ag,zbo y<=1000)/\∀ y∈x.Items,zbo y.Ann<=1000)/\(∀ y∈x.Ag,g y=(true,(zbo y:Int)))/\∀ y∈x.Items,g y.Ann=(true,(zbo y.Ann:Int))
theorem zbgs (l:yC) (hl:l.length<=1000000) (hg:∀ f∈l,zQu g f.At) (t13:yB) (t14 t15:Int) (fuel n:Nat) (hf:l.length<fuel):
  zyO g fuel n t13 t14 t15 l l.length 0=(true,(((max n (zc7 l):Nat):Int),t13,t14,t15)):=by
 have h:=zcP (W:=zre g) (z:=default) (l:=l) (λi (n:Nat)=>((n:Int),t13,t14,t15,l,(l.length:Int),(i:Int),())) (λ_ _=>()) (λy n=>.inl (max n (zni y.At))) (λn=>((n:Int),t13,t14,t15)) (λi n=>True)
  (λi n hi hI=>.inl ⟨_,rfl,trivial,λH K D=>by
   obtain ⟨⟨h1,h2⟩,⟨h5,_,_⟩,h3,h4⟩:=hg _ (zn hi);show (zik g n t13 t14 t15 l l.length i).ev H K D=_;unfold zik;simp only [Wy.ev_i,Wy.ev_k,Wy.ev_h,Wy.ev_bn,Wy.ev_d,tT,hi,At.eta];generalize l.getD i default=f at *;rw [zCE] at h5 ⊢;by_cases hk:f.At.Kind=0
   ·have e:(f.At.Kind==0)=true:=by simp [hk]
    simp only [e,cond_true];rw [if_pos hk,Nat.max_zero,zgl (by omega)]
   ·have e:(f.At.Kind==0)=false:=by simp [hk]
    simp only [e,cond_false];rw [if_neg hk] at h5 ⊢;have q:=λfuel hf=>zbga g _ h1 h3 n t13 t14 t15 l l.length i f fuel 0 hf
    rw [Nat.zero_max,show ((0:Nat):Int)=(0:Int) from rfl] at q
    rw [q _ (by omega)]
    simp only [cond_true,Int.toNat_natCast];rw [zbe5 g _ h2 h4 n t13 t14 t15 l l.length i _ _ (by omega)]
    simp only [cond_true];rw [zgl (by omega),show (1:Int)=((1:Nat):Int) from rfl,znA (n:=1) (by omega),zWs]⟩)
  (λn hI H K D=>by
   show (zik g n t13 t14 t15 l l.length l.length).ev H K D=_;unfold zik;simp only [Wy.ev_i,Wy.ev_k,tT,Nat.lt_irrefl]) fuel 0 n (by omega) (Nat.zero_le _) trivial
 rw [List.drop_zero,zcO,zRS] at h;exact h
theorem zbgi (l:yB) (hl:l.length<=1000000) (hg:∀ t∈l,t.Fs.length<=1000000/\∀ f∈t.Fs,zQu g f.At) (fuel n:Nat) (hf:l.length<fuel):
  zyF g fuel n l l.length 0=(true,((max n (zbo l):Nat):Int)):=by
 have h:=zcP (W:=zrd g) (z:=default) (l:=l) (λi (n:Nat)=>((n:Int),l,(l.length:Int),(i:Int),())) (λ_ _=>()) (λy n=>.inl (max n (zc7 y.Fs))) (λn=>(n:Int)) (λi n=>True)
  (λi n hi hI=>.inl ⟨_,rfl,trivial,λH K D=>by
   obtain ⟨h1,h3⟩:=hg _ (zn hi);show (zit g n l l.length i).ev H K D=_;unfold zit;simp only [Wy.ev_i,Wy.ev_k,Wy.ev_h,Wy.ev_bn,Wy.ev_d,tT,hi,At.eta];rw [zbgs g _ h1 h3 _ _ _ _ _ (by omega)]
   simp only [cond_true];rw [zgl (by omega)]⟩)
  (λn hI H K D=>by
   show (zit g n l l.length l.length).ev H K D=_;unfold zit;simp only [Wy.ev_i,Wy.ev_k,tT,Nat.lt_irrefl]) fuel 0 n (by omega) (Nat.zero_le _) trivial
 rw [List.drop_zero,zcO,z3L] at h;exact h
theorem zbdS (x:At) (hx:zQu g x) (a:yB) (most i k:Int) (fuel n:Nat) (hf:x.Ag.length<fuel):
  zwt g fuel a most i k ((1+n:Nat):Int) 0 x=(true,(a,most,i,k,((1+max n (zlE x.Ag):Nat):Int),x)):=by
 obtain ⟨⟨h1,h2⟩,⟨h5,h6,h7⟩,h3,h4⟩:=hx
 have h:=zcP (W:=zwG g) (z:=default) (l:=x.Ag) (λj (n:Nat)=>(a,most,i,k,(),(n:Int),(j:Int),())) (λ_ _=>(x,())) (λy n=>.inl (max n (1+zbo y))) (λn=>(a,most,i,k,(n:Int),x)) (λi n=>True)
  (λj n hi hI=>.inl ⟨_,rfl,trivial,λH K D=>by
   have h8:=h6 _ (zn hi);show (zlu g a most i k n j x).ev H K D=_;unfold zlu;simp only [Wy.ev_i,Wy.ev_k,Wy.ev_h,Wy.ev_bn,Wy.ev_d,tT,hi,h3 _ (zn hi)];rw [zgl (by omega),show (1:Int)=((1:Nat):Int) from rfl,znA (n:=1) (by omega),zWs]⟩)
  (λn hI H K D=>by
   show (zlu g a most i k n x.Ag.length x).ev H K D=_;unfold zlu;simp only [Wy.ev_i,Wy.ev_k,tT,Nat.lt_irrefl]) fuel 0 (1+n) (by omega) (Nat.zero_le _) trivial
 rw [List.drop_zero,zcO,z8G] at h;exact h
theorem zbdA (x:At) (hx:zQu g x) (a:yB) (most i k:Int) (fuel n:Nat) (hf:x.Items.length<fuel):
  zDd g fuel a most i k ((1+n:Nat):Int) 0 x=(true,(a,most,i,k,((1+max n (zkp x.Items):Nat):Int))):=by
 obtain ⟨⟨h1,h2⟩,⟨h5,h6,h7⟩,h3,h4⟩:=hx
 have h:=zcP (W:=zwz g) (z:=default) (l:=x.Items) (λj (n:Nat)=>(a,most,i,k,(),(n:Int),(j:Int),())) (λ_ _=>(x,())) (λy n=>.inl (max n (1+zbo y.Ann))) (λn=>(a,most,i,k,(n:Int))) (λi n=>True)
  (λj n hi hI=>.inl ⟨_,rfl,trivial,λH K D=>by
   have h8:=h7 _ (zn hi);show (zlt g a most i k n j x).ev H K D=_;unfold zlt;simp only [Wy.ev_i,Wy.ev_k,Wy.ev_h,Wy.ev_bn,Wy.ev_d,tT,hi,h4 _ (zn hi)];rw [zgl (by omega),show (1:Int)=((1:Nat):Int) from rfl,znA (n:=1) (by omega),zWs]⟩)
  (λn hI H K D=>by
   show (zlt g a most i k n x.Items.length x).ev H K D=_;unfold zlt;simp only [Wy.ev_i,Wy.ev_k,tT,Nat.lt_irrefl]) fuel 0 (1+n) (by omega) (Nat.zero_le _) trivial
 rw [List.drop_zero,zcO,z6u] at h;exact h
theorem RNes_12' (x:At) (hx:zQu g x) (a:yB) (most i k:Int) (fuel:Nat) (hf:x.Ag.length<fuel):zwt g fuel a most i k 1 0 x=(true,(a,most,i,k,((1+zlE x.Ag:Nat):Int),x)):=by
 have h:=zbdS g x hx a most i k fuel 0 hf;rw [Nat.zero_max] at h; exact h
theorem zbfP (a:yB) (i:Nat) (hi:i<a.length) (hla:a.length<=1000000) (l:yC) (el:(a.getD i default).Fs=l) (hl:l.length<=1000000) (hg:∀ f∈l,zQu g f.At) (fuel n:Nat) (hf:l.length<fuel):
  zFo g fuel a n i 0=(true,(a,((max n (zc7 l):Nat):Int),(i:Int))):=by
 have h:=zcP (W:=zx6 g) (z:=default) (l:=l) (λk (n:Nat)=>(a,(n:Int),(i:Int),(k:Int),())) (λ_ _=>()) (λy n=>.inl (max n (zni y.At))) (λn=>(a,(n:Int),(i:Int))) (λk n=>True)
  (λk n hk hI=>.inl ⟨_,rfl,trivial,λH K D=>by
   have hx:=hg _ (zn hk);have h5:=hx.2.1.1;show (zmo g a n i k).ev H K D=_;unfold zmo;simp only [Wy.ev_i,Wy.ev_k,Wy.ev_h,Wy.ev_bn,Wy.ev_d,tT,hi,el,hk,At.eta];generalize l.getD k default=f at *;rw [zCE] at h5 ⊢;by_cases hz:f.At.Kind=0
   ·have e:(f.At.Kind==0)=true:=by simp [hz]
    simp only [e,cond_true];rw [if_pos hz,Nat.max_zero,zgl (by omega)]
   ·have e:(f.At.Kind==0)=false:=by simp [hz]
    have hx1:=hx.1;simp only [e,cond_false];rw [if_neg hz] at h5 ⊢;rw [RNes_12' g _ hx _ _ _ _ _ (by omega)]
    simp only [cond_true,Int.toNat_natCast,At.eta];rw [zbdA g _ hx _ _ _ _ _ _ (by omega)]
    simp only [cond_true];rw [zgl (by omega),zWs]⟩)
  (λn hI H K D=>by
   show (zmo g a n i l.length).ev H K D=_;unfold zmo;simp only [Wy.ev_i,Wy.ev_k,tT,hi,el,Nat.lt_irrefl]) fuel 0 n (by omega) (Nat.zero_le _) trivial
 rw [List.drop_zero,zcO,zRS] at h;exact h
theorem zbeV (l:yB) (hl:l.length<=1000000) (hg:∀ t∈l,t.Fs.length<=1000000/\∀ f∈t.Fs,zQu g f.At) (fuel n:Nat) (hf:l.length<fuel):
  zFx g fuel l n 0=(true,((max n (zbo l):Nat):Int)):=by
 have h:=zcP (W:=zxp g) (z:=default) (l:=l) (λi (n:Nat)=>(l,(n:Int),(i:Int),())) (λ_ _=>()) (λy n=>.inl (max n (zc7 y.Fs))) (λn=>(n:Int)) (λi n=>True)
  (λi n hi hI=>.inl ⟨_,rfl,trivial,λH K D=>by
   obtain ⟨h1,h3⟩:=hg _ (zn hi);have hz:=zIE l i hi;show (zmz g l n i).ev H K D=_;unfold zmz;simp only [Wy.ev_i,Wy.ev_k,Wy.ev_h,Wy.ev_bn,Wy.ev_d,tT,hi,At.eta];rw [zbfP g l i hi hl _ rfl h1 h3 _ _ (by omega)]
   simp only [cond_true];rw [zgl (by omega)]⟩)
  (λn hI H K D=>by
   show (zmz g l n l.length).ev H K D=_;unfold zmz;simp only [Wy.ev_i,Wy.ev_k,tT,Nat.lt_irrefl]) fuel 0 n (by omega) (Nat.zero_le _) trivial
 rw [List.drop_zero,zcO,z3L] at h;exact h
end
theorem z2R:∀ (n d:Nat) (a:yB),zo d a->d<=n->d<=100->zfW n a=(true,(zbo a:Int))/\zky n a=(true,(zbo a:Int))
 | n,0,a,h,hd,hs=>h.elim
 | 0,d+1,a,h,hd,hs=>by omega
 | n+1,d+1,a,h,hd,hs=>by
  have hg:=λy (hy:zo d y)=>z2R n d y hy (by omega) (by omega)
  have hsub:∀ t∈a,t.Fs.length<=1000000/\∀ f∈t.Fs,zQu (zfW n) f.At/\zQu (zky n) f.At:=λt ht=>by
   obtain ⟨h1,h2⟩:=zMp h ht;refine ⟨h1,λf hf=> ?_⟩
   obtain ⟨h3,h4,h5⟩:=h2 f hf;have q1:∀ y∈f.At.Ag,zbo y<=d:=λy hy=>zPJ d y (h4 y hy)
   have q2:∀ y∈f.At.Items,zbo y.Ann<=d:=λy hy=>zPJ d y.Ann (h5 y hy)
   have q3:zni f.At<=1000:=by
    have r1:=z0P _ q1; have r2:=zYo _ q2;rw [zCE]; split <;>omega
   have q4:zni f.At<=1000/\(∀ y∈f.At.Ag,zbo y<=1000)/\∀ y∈f.At.Items,zbo y.Ann<=1000:=⟨q3,λy hy=>by have:=q1 y hy; omega,λy hy=>by have:=q2 y hy; omega⟩
   exact ⟨⟨h3,q4,λy hy=>(hg y (h4 y hy)).1,λy hy=>(hg _ (h5 y hy)).1⟩,⟨h3,q4,λy hy=>(hg y (h4 y hy)).2,λy hy=>(hg _ (h5 y hy)).2⟩⟩
  constructor
  ·rw [zKK];unfold zoD zzC;have h1:=zbgi (zfW n) a h.1 (λt ht=>⟨(hsub t ht).1,λf hf=>((hsub t ht).2 f hf).1⟩) (Int.toNat 0+a.length+(Int.ofNat a.length).toNat +Int.toNat 0+1) 0 (by omega)
   rw [show ((0:Nat):Int)=(0:Int) from rfl,Nat.zero_max] at h1
   rw [Wy.fin_bn,show Int.ofNat a.length=(a.length:Int) from rfl] at *
   rw [h1]; rfl
  ·rw [zUM];unfold zwX zGX;have h1:=zbeV (zky n) a h.1 (λt ht=>⟨(hsub t ht).1,λf hf=>((hsub t ht).2 f hf).2⟩) (a.length+Int.toNat 0+Int.toNat 0+1+zdY a) 0 (by omega)
   rw [show ((0:Nat):Int)=(0:Int) from rfl,Nat.zero_max] at h1
   rw [Wy.fin_bn,h1]; rfl
theorem zxn (x y:Int):zex x y=(true,zdX x y):=by
 unfold zex zG1 zrv zLB zdX;by_cases h1:x<y
 ·simp [h1,Wy.fin_i,Wy.fin_k]
 ·by_cases h2:y<x <;>simp [h1,h2,Wy.fin_i,Wy.fin_k]
theorem zuF (x y:Int):ziC x y=(true,zdX x y):=by
 unfold ziC zDu zmY zG7 zdX;by_cases h1:x<y
 ·simp [h1,Wy.fin_i,Wy.fin_k]
 ·by_cases h2:y<x <;>simp [h1,h2,Wy.fin_i,Wy.fin_k]
def ztW:List Int->Int
 | []=>0
 | x::r=>if x=0 then ztW r else x
theorem z84 (l:List Int) (hl:l.length<=1000000):∀ (n i:Nat),l.length<i+n->i<=l.length->∃ r,zGL n 0 l l.length i=(true,r)/\(r=.inl (ztW (l.drop i))\/(r=.inr 0/\ztW (l.drop i)=0))
 | 0,i,h,h2=>by omega
 | n+1,i,h,h2=>by
  show ∃ r,(zGH 0 l l.length i).ev (λx y=>zGL n x.1 x.2.1 x.2.2.1 x.2.2.2.1) (λr=>(true,r)) (false,.inl default)=(true,r)/\_
  unfold zGH;by_cases hi:i<l.length
  ·simp only [Wy.ev_i,Wy.ev_k,Wy.ev_h,Int.ofNat_eq_natCast,zzG,zea,decide_true,decide_false,Bool.and_self,Bool.true_and,Bool.and_true,cond_true,cond_false,Int.toNat_natCast,Bool.not_true,Bool.not_false,hi];obtain ⟨r,h1,h3⟩:=z84 l hl n (i+1) (by omega) (by omega)
   rw [zbf hi,zD (by omega),h1]
   generalize l.getD i default=x;by_cases hx:x=0
   ·have e:(x != 0)=false:=by simp [hx]
    simp only [e,cond_false,ztW,hx,if_true];exact ⟨r,rfl,h3⟩
   ·have e:(x != 0)=true:=by simp [hx]
    simp only [e,cond_true,ztW,hx,if_false];exact ⟨_,rfl,.inl rfl⟩
  ·simp only [Wy.ev_i,Wy.ev_k,Wy.ev_h,Int.ofNat_eq_natCast,zzG,zea,decide_true,decide_false,Bool.and_self,Bool.true_and,Bool.and_true,cond_true,cond_false,Int.toNat_natCast,Bool.not_true,Bool.not_false,hi,zce hi];exact ⟨_,rfl,.inr ⟨rfl,rfl⟩⟩
theorem zvn (l:List Int) (hl:l.length<=1000000):zoy l=(true,ztW l):=by
 unfold zoy zTq;obtain ⟨r,h1,h2⟩:=z84 l hl (Int.toNat 0+l.length+(Int.ofNat l.length).toNat +Int.toNat 0+1) 0 (by simp; omega) (by omega)
 rw [show ((0:Nat):Int)=(0:Int) from rfl] at h1
 rw [Wy.fin_bn,show Int.ofNat l.length=(l.length:Int) from rfl] at *
 rw [h1];rw [List.drop_zero] at h2;rcases h2 with rfl | ⟨rfl,h2⟩
 ·rfl
 ·rw [h2]; rfl
section
variable {α:Type}
def zws (c:α->α->Int):List α->List α->Int
 | [],[]=>0
 | [],_::_=> -1
 | _::_,[]=>1
 | x::a,y::b=>if c x y=0 then zws c a b else c x y
theorem zLg (e:α->TT) {c:α->α->Int}:∀ (a b:List α),(∀ x∈a,∀ y∈b,c x y=zbb (e x) (e y))->zws c a b=zbs (a.map e) (b.map e)
 | [],[],_=>by simp only [zws,List.map,zbs]
 | [],_::_,_=>by simp only [zws,List.map,zbs]
 | _::_,[],_=>by simp only [zws,List.map,zbs]
 | x::a,y::b,h=>by
  simp only [zws,List.map,zbs];rw [h x (by simp) y (by simp),zLg e a b λx hx y hy=>h x (by simp [hx]) y (by simp [hy])]
variable [Inhabited α]
def z5L (g:α->α->Bool×Int) (s1:List α) (s2:List α) (t11:List α) (t12:Int) (t13:Int):Wy (List α×List α×Unit×List α×Int×Int×Unit) Unit (Int⊕(List α×List α)):=.i (decide (t13<t12)) (.i (decide ((0:Int)<=t13)&&decide (t13<Int.ofNat t11.length)) (.i (decide (t13≥Int.ofNat s2.length)) (.k (.inl (1:Int))) (.i (decide ((0:Int)<=t13)&&decide (t13<Int.ofNat s2.length)) (.bn (g (t11.getD t13.toNat default) (s2.getD t13.toNat default)) λr0=>.i (r0 != (0:Int)) (.k (.inl (r0))) (.h (s1,s2,(),t11,t12,(IntKind.i64.wrap (t13+(1:Int))),()) ())) .d)) .d) (.k (.inr (s1,s2)))
def z9W (g:α->α->Bool×Int) (x:List α×List α×Unit×List α×Int×Int×Unit) (y:Unit):Wy (List α×List α×Unit×List α×Int×Int×Unit) Unit (Int⊕(List α×List α)):=z5L g x.1 x.2.1 x.2.2.2.1 x.2.2.2.2.1 x.2.2.2.2.2.1
def z9Q (g:α->α->Bool×Int) (n:Nat) (s1:List α) (s2:List α) (t11:List α) (t12:Int) (t13:Int):Bool×(Int⊕(List α×List α)):=zA (z9W g) (.inl default) n (s1,s2,(),t11,t12,t13,()) ()
def CF (g:α->α->Bool×Int) (s1 s2:List α):Bool×Int:=(.bn (z9Q g (s1.length+s2.length+s1.length+(Int.ofNat s1.length).toNat +Int.toNat (0:Int)+(1:Nat)) s1 s2 s1 (Int.ofNat s1.length) (0:Int)) λr2=>.i (isL r2) (.k (getL r2)) (.i (decide (Int.ofNat (getR r2).fst.length<Int.ofNat (getR r2).snd.length)) (.k (-1:Int)) (.k (0:Int))):Wy0 Int).fin default
theorem z9s (g:α->α->Bool×Int) (c:α->α->Int) (a b:List α) (ha:a.length<=1000000) (hg:∀ x∈a,∀ y∈b,g x y=(true,c x y)):∀ (n i:Nat),a.length<i+n->i<=a.length->i<=b.length->
  ∃ r,z9Q g n a b a a.length i=(true,r)/\((r=.inl (zws c (a.drop i) (b.drop i)))\/(r=.inr (a,b)/\zws c (a.drop i) (b.drop i)=if a.length<b.length then -1 else 0))
 | 0,i,h,h2,h3=>by omega
 | n+1,i,h,h2,h3=>by
  show ∃ r,(z5L g a b a a.length i).ev (λx y=>z9Q g n x.1 x.2.1 x.2.2.2.1 x.2.2.2.2.1 x.2.2.2.2.2.1) (λr=>(true,r)) (false,.inl default)=(true,r)/\_
  unfold z5L;by_cases hi:i<a.length
  ·by_cases hi':i<b.length
   ·have hg':¬ b.length<=i:=by omega
    simp only [Wy.ev_i,Wy.ev_k,Wy.ev_h,Wy.ev_bn,Wy.ev_d,Int.ofNat_eq_natCast,zzG,zea,decide_true,decide_false,Bool.and_self,Bool.true_and,Bool.and_true,cond_true,cond_false,Int.toNat_natCast,Bool.not_true,Bool.not_false,hi,hi',zbbJ,hg',hg _ (zn hi) _ (zn hi')];rw [zbf hi,zbf hi',zD (by omega)]
    simp only [zws];generalize c (a.getD i default) (b.getD i default)=z;by_cases hx:z=0
    ·have e:(z != 0)=false:=by simp [hx]
     simp only [e,cond_false,hx,if_true];exact z9s g c a b ha hg n (i+1) (by omega) (by omega) (by omega)
    ·have e:(z != 0)=true:=by simp [hx]
     simp only [e,cond_true,hx,if_false];exact ⟨_,rfl,.inl rfl⟩
   ·have hg':b.length<=i:=by omega
    simp only [Wy.ev_i,Wy.ev_k,Wy.ev_h,Wy.ev_bn,Wy.ev_d,Int.ofNat_eq_natCast,zzG,zea,decide_true,decide_false,Bool.and_self,Bool.true_and,Bool.and_true,cond_true,cond_false,Int.toNat_natCast,Bool.not_true,Bool.not_false,hi,zbbJ,hg'];refine ⟨_,rfl,.inl ?_⟩;rw [zbf hi,zce hi']; rfl
  ·simp only [Wy.ev_i,Wy.ev_k,Wy.ev_h,Wy.ev_bn,Wy.ev_d,Int.ofNat_eq_natCast,zzG,zea,decide_true,decide_false,Bool.and_self,Bool.true_and,Bool.and_true,cond_true,cond_false,Int.toNat_natCast,Bool.not_true,Bool.not_false,hi];refine ⟨_,rfl,.inr ⟨rfl, ?_⟩⟩;rw [zce hi];by_cases hi':i<b.length
   ·rw [zbf hi',if_pos (by omega)]; rfl
   ·rw [zce hi',if_neg (by omega)]; rfl
theorem zbgO (g:α->α->Bool×Int) (c:α->α->Int) (a b:List α) (ha:a.length<=1000000) (hg:∀ x∈a,∀ y∈b,g x y=(true,c x y)):CF g a b=(true,zws c a b):=by
 unfold CF;obtain ⟨r,h1,h2⟩:=z9s g c a b ha hg (a.length+b.length+a.length+(Int.ofNat a.length).toNat +Int.toNat 0+1) 0 (by simp; omega) (by omega) (by omega)
 rw [show ((0:Nat):Int)=(0:Int) from rfl] at h1
 rw [Wy.fin_bn,show Int.ofNat a.length=(a.length:Int) from rfl] at *
 rw [h1];simp only [List.drop_zero] at h2;rcases h2 with rfl | ⟨rfl,h2⟩
 ·rfl
 ·rw [h2];simp only [Wy.fin_i,Wy.fin_k,Int.ofNat_eq_natCast,zzG,zea,decide_true,decide_false,Bool.and_self,Bool.true_and,Bool.and_true,cond_true,cond_false,Int.toNat_natCast,Bool.not_true,Bool.not_false,isL,getR];by_cases h3:a.length<b.length <;>simp [h3]
end
theorem zNJ {α:Type} [Inhabited α] (e:α->TT) (g:α->α->Bool×Int) (a b:List α) (ha:a.length<=1000000) (hg:∀ x∈a,∀ y∈b,g x y=(true,zbb (e x) (e y))):CF g a b=(true,zbs (a.map e) (b.map e)):=by
 rw [zbgO g (λx y=>zbb (e x) (e y)) a b ha hg,zLg e a b λ_ _ _ _=>rfl]
theorem Fc.eta2 (x:Fc):(FO.mk (At.mk x.At.Kind x.At.Row x.At.Ag x.At.Func x.At.Items x.At.Op x.At.Bd) x.Exp:Fc)=x:=by rw [At.eta]
theorem zbcy (g):zbO g=CF g:=rfl
theorem zbaC (g):zbt g=CF g:=by
 have h:zbM g=z9W g:=by
  funext x y
  unfold zbM zdQ z9W z5L;rw [Fc.eta2,Fc.eta2]
 funext a b
 unfold zbt zdW zdR;rw [h]; rfl
theorem zbeu (g):zbm g=CF g:=rfl
theorem zbcU (g):zbI g=CF g:=rfl
theorem zAo (a b:Value):zjc a b=(true,zbb (trV a) (trV b)):=by
 unfold zjc zLh;have h:(strings_Compare a.Text b.Text).2=zbb (trB a.Text) (trB b.Text):=by rw [<- z83]; rfl
 simp only [zxn,zuF,Wy.fin_bn,cond_true,h];rw [zvn _ (by simp)]
 simp only [Wy.fin_k,cond_true,trV,zbb,zbs,ztW];rfl
theorem zNt:∀ n,
  (∀ d a b,zo d a->10*d<=n->zfQ n a b=(true,zbs (zdi a) (zdi b)))/\
  (∀ d a b,zo d a->10*d<=n+1->zbN n a b=(true,zbs (zdi a) (zdi b)))/\
  (∀ d x y,zgu (zo d) x.Fs->10*d+10<=n+2->zix n x y=(true,zbb (zxF x) (zxF y)))/\
  (∀ d x y,zgu (zo d) x.Fs->10*d+10<=n+3->zgV n x y=(true,zbs (zbv x.Fs) (zbv y.Fs)))/\
  (∀ d l l',zgu (zo d) l->10*d+10<=n+4->zbS n l l'=(true,zbs (zbv l) (zbv l')))/\
  (∀ d x y,zc0 (zo d) x.At->10*d+10<=n+5->zfI n x y=(true,zbb (zqf x) (zqf y)))/\
  (∀ d x y,zc0 (zo d) x->10*d+10<=n+6->zgX n x y=(true,zbb (zdN x) (zdN y)))/\
  (∀ d a b,a.length<=1000000->(∀ x∈a,zo d x)->10*d+10<=n+7->zbl n a b=(true,zbs (zvY a) (zvY b)))/\
  (∀ d a b,a.length<=1000000->(∀ x∈a,zo d x.Ann)->10*d+10<=n+7->zbG n a b=(true,zbs (zhg a) (zhg b)))/\
  (∀ d x y,zo d x.Ann->10*d+10<=n+8->zeQ n x y=(true,zbb (zbc x) (zbc y)))
 | 0=>by
  refine ⟨?_, ?_, ?_, ?_, ?_, ?_, ?_, ?_, ?_, ?_⟩
  ·intro d a b h hd; have:d=0:=by omega
   subst this; exact h.elim
  ·intro d a b h hd; have:d=0:=by omega
   subst this; exact h.elim
  all_goals (intros; omega)
 | n+1=>by
  obtain ⟨h1,h2,h3,h4,h5,h6,h7,h8,h9,h10⟩:=zNt n;refine ⟨?_, ?_, ?_, ?_, ?_, ?_, ?_, ?_, ?_, ?_⟩
  ·intro d a b h hd;rw [zKc];unfold zoW zzp;rw [Wy.fin_bn,h2 d a b h (by omega)]; rfl
  ·intro d a b h hd;cases d with
   | zero=>exact h.elim
   | succ d=>
    rw [zhX,zbcy,zER,zER];exact zNJ zxF _ a b h.1 λx hx y hy=>h3 d x y (h.2 x hx) (by omega)
  ·intro d x y h hd;rw [zGn];unfold zlb zw0;rw [Wy.fin_bn,h4 d x y h (by omega)]
   simp only [cond_true,Wy.fin_bn,zuF];rw [zvn _ (by simp)]
   obtain ⟨c,l⟩:=x; obtain ⟨c',l'⟩:=y;simp only [cond_true,Wy.fin_k,ztW,zxF,zbb,zbs];rfl
  ·intro d x y h hd;rw [zDE];unfold zjN zup;rw [Wy.fin_bn,h5 d _ _ h (by omega)]; rfl
  ·intro d l l' h hd;rw [zis,zbaC,zvz,zvz];exact zNJ zqf _ l l' h.1 λx hx y hy=>h6 d x y (h.2 x hx) (by omega)
  ·intro d x y h hd;rw [zBI];unfold ziV zs3;rw [At.eta,At.eta,Wy.fin_bn,h7 d _ _ h (by omega)]
   simp only [cond_true,Wy.fin_bn,zxn];rw [zvn _ (by simp)]
   obtain ⟨c,l⟩:=x; obtain ⟨c',l'⟩:=y;simp only [cond_true,Wy.fin_k,ztW,zqf,zbb,zbs];rfl
  ·intro d x y h hd;rw [zD6];unfold zjP zum;simp only [cond_true,Wy.fin_bn,zxn,zAo,h8 d x.Ag y.Ag h.1.1 h.2.1 (by omega),h9 d x.Items y.Items h.1.2.1 (λw hw=>(h.2.2 w hw).2) (by omega)]
   rw [zvn _ (by simp)]
   obtain ⟨k,r,a,f,i,o,v⟩:=x; obtain ⟨k',r',a',f',i',o',v'⟩:=y;simp only [cond_true,Wy.fin_k,ztW,zdN,zbb,zbs];rfl
  ·intro d a b h0 h hd;rw [ze3,zbeu,zCy,zCy];exact zNJ (λx=>TT.l (zdi x)) _ a b h0 λx hx y hy=>by rw [h1 d x y (h x hx) (by omega)]; simp only [zbb]
  ·intro d a b h0 h hd;rw [zgv,zbcU,zl0,zl0];exact zNJ zbc _ a b h0 λx hx y hy=>h10 d x y (h x hx) (by omega)
  ·intro d x y h hd;rw [zDR];unfold zjH zuo;simp only [cond_true,Wy.fin_bn,zAo,h1 d _ _ h (by omega)]
   rw [zvn _ (by simp)]
   obtain ⟨c,l⟩:=x; obtain ⟨c',l'⟩:=y;simp only [cond_true,Wy.fin_k,ztW,zbc,zbb,zbs];rfl
theorem zNw {d:Nat} {a:yB} (h:zo d a) (hd:d<=100) (b:yB):zxE a b=(true,zbs (zdi a) (zdi b)):=(zNt 1000).1 d a b h (by omega)
theorem zvN {d:Nat} {x:Term} (h:zgu (zo d) x.Fs) (hd:d<=99) (y:Term):zbV x y=(true,zbs (zbv x.Fs) (zbv y.Fs)):=(zNt 1000).2.2.2.1 d x y h (by omega)
theorem zv6 {d:Nat} {x:At} (h:zc0 (zo d) x) (hd:d<=99) (y:At):ziw x y=(true,zbb (zdN x) (zdN y)):=(zNt 1000).2.2.2.2.2.2.1 d x y h (by omega)
theorem zjf {d:Nat} {x:Wd} (h:zo d x.Ann) (hd:d<=99) (y:Wd):z6 x y=(true,zbb (zbc x) (zbc y)):=(zNt 1000).2.2.2.2.2.2.2.2.2 d x y h (by omega)
theorem zDa {d:Nat} {a:yB} (h:zo d a) (hd:d<=100) (b:yB):zhA a b=(true,decide (a=b)):=by
 unfold zhA zEX;rw [Wy.fin_bn,zNw h hd];simp only [cond_true,Wy.fin_k];congr 1;by_cases e:a=b
 ·subst e; rw [zVu]; simp
 ·have:zbs (zdi a) (zdi b)≠0:=λh=>e (zFh _ _ (zH5 _ _ h))
  simp [e,this]
end Go.Proofs.YtoknknbmfmddbaaGreatDoor
end
