/- Texts of this claim, joined (the program, its functions in plain words, and what they compute). -/
import Derived.Test.YtljlfiomikifjaaGreatDoorGC6
set_option autoImplicit false
set_option linter.unusedVariables false
set_option linter.unusedSectionVars false
set_option linter.unusedSimpArgs false
set_option maxRecDepth 1000000
set_option maxHeartbeats 0
noncomputable section
namespace Go.Proofs.YtljlfiomikifjaaGreatDoor
open Go Go.Ab
open Go.Proofs.Tryz
abbrev zHb:=Int×yA×Int×Unit
def zOA (limit:Int) (l:yA) (i:Int):Wy zHb Unit (Bool⊕Unit):=.i (decide (i<Int.ofNat l.length)) (.i (decide (0<=i)&&decide (i<Int.ofNat l.length)) (.bn (zP9 (l.getD i.toNat default) limit 12) λr0=>.i (decide (r0>limit)) (.k (.inl false)) (.h (limit,l,(IntKind.i64.wrap (i+1)),()) ())) .d) (.k (.inr ()))
def zZp (x:zHb) (y:Unit):=zOA x.1 x.2.1 x.2.2.1
def zPB (n:Nat) (limit:Int) (l:yA) (i:Int):=zC (zZp) (.inl default) n (limit,l,i,()) ()
def zbbt:LL ty zHb:=za zj (za (lSl 23) (za zj zl))
def zbaF (x:zHb) (y:Unit):Nat:=(Int.toNat x.1+x.2.1.length+Int.toNat x.2.2.1+1)
def z1i:=zbV base 20 [(48,zMt)] [] [(2,(kpL [0,1,5]))] [(2,1,[]),(2,0,(kpL [4]))] [(2,spW zbbt zba6 (zZp) (.inl default) zSV zbaF)] []
theorem zbat:zF z1i (lp (body f13) 0):=zq (id:=2) (hl:=rfl)
def z3E (limit:Int) (l:yA):Wy0 (Bool):=.bn (zPB (limit.toNat +l.length+Int.toNat 0+1) limit l 0) λr2=>.i (isL r2) (.k (getL r2)) (.k true)
def zC5 (limit:Int) (l:yA):=(z3E limit l).fin default
def zbdr:AL base (Int×yA×Unit):=ze (zf zfh) (ze (zf (vSl 23)) zu)
def zTT:=zi zbdr λx=>((zC5 x.1 x.2.1).1,zYq (zC5 x.1 x.2.1).2)
theorem z6U:SdP 13 zTT:=
 sT (cx':=z1i) (zk ⟨zYT,trivial⟩) call13 func13 (lOK (aC zbat aN))
abbrev zyY:=Unit×Unit×Int×Bool×Int×Unit
abbrev zg8:=Term×Term×Unit
abbrev zPO:=Int×Bool×Term×Term
abbrev zzq:=Unit×Unit×Int×Unit
def zFt (i:Int) (found:Bool) (k:Int) (a:Term) (b:Term):Wy zyY zg8 zPO:=.i (decide (k<Int.ofNat b.Fs.length)) (.i (found) (.h ((),(),i,true,(IntKind.i64.wrap (k+1)),()) (a,b,())) (.i (decide (0<=i)&&decide (i<Int.ofNat a.Fs.length)) (.i (decide (0<=k)&&decide (k<Int.ofNat b.Fs.length)) (.bn (zjV (At.mk (a.Fs.getD i.toNat default).At.Kind (a.Fs.getD i.toNat default).At.Row (a.Fs.getD i.toNat default).At.Ag (a.Fs.getD i.toNat default).At.Func (a.Fs.getD i.toNat default).At.Items (a.Fs.getD i.toNat default).At.Op (a.Fs.getD i.toNat default).At.Bd) (At.mk (b.Fs.getD k.toNat default).At.Kind (b.Fs.getD k.toNat default).At.Row (b.Fs.getD k.toNat default).At.Ag (b.Fs.getD k.toNat default).At.Func (b.Fs.getD k.toNat default).At.Items (b.Fs.getD k.toNat default).At.Op (b.Fs.getD k.toNat default).At.Bd)) λr0=>.i (r0==0) (.i (decide (0<=i)&&decide (i<Int.ofNat a.Fs.length)) (.i (decide (0<=k)&&decide (k<Int.ofNat b.Fs.length)) (.h ((),(),i,(decide ((a.Fs.getD i.toNat default).Exp<=(b.Fs.getD k.toNat default).Exp)),(IntKind.i64.wrap (k+1)),()) (a,b,())) .d) .d) (.h ((),(),i,false,(IntKind.i64.wrap (k+1)),()) (a,b,()))) .d) .d)) (.k (i,found,a,b))
def zPs (x:zyY) (y:zg8):=zFt x.2.2.1 x.2.2.2.1 x.2.2.2.2.1 y.1 y.2.1
def zFo (n:Nat) (i:Int) (found:Bool) (k:Int) (a:Term) (b:Term):=zC (zPs) default n ((),(),i,found,k,()) (a,b,())
def z3k (r:zPO):LTree ty:=.done (.exit 2) [.ptr 224 0,.ptr 225 0,.lit (.int .i64 r.1),.lit (.bool r.2.1)] [.box (base.enc 28 r.2.2.1) false,.box (base.enc 28 r.2.2.2) false]
def z4e:LL ty zyY:=za (ze3 224 0) (za (ze3 225 0) (za zj (za zbiF (za zj zl))))
def z4h:BL ty zg8:=zhS (zf1 (λx=>(⟨x.1,x.2.1⟩:Term)) (λx=>(x.Cf,x.Fs,())) (λ_=>rfl) (za (zR .i64) (za (lSl 69) zl))) false (zhS (zf1 (λx=>(⟨x.1,x.2.1⟩:Term)) (λx=>(x.Cf,x.Fs,())) (λ_=>rfl) (za (zR .i64) (za (lSl 69) zl))) false (zbd))
def zFq (i:Int) (a:Term) (b:Term):Wy zzq zg8 (Bool⊕Unit):=.i (decide (i<Int.ofNat a.Fs.length)) (.bn (zFo (i.toNat +Int.toNat 0+a.Fs.length+b.Fs.length+1000) i false 0 a b) λr2=>.i (!r2.2.1) (.k (.inl false)) (.h ((),(),(IntKind.i64.wrap (r2.1+1)),()) ((r2.2.2.1),(r2.2.2.2),()))) (.k (.inr ()))
def zPx (x:zzq) (y:zg8):=zFq x.2.2.1 y.1 y.2.1
def zFs (n:Nat) (i:Int) (a:Term) (b:Term):=zC (zPx) (.inl default) n ((),(),i,()) (a,b,())
def z42:LL ty zzq:=za (ze3 224 0) (za (ze3 225 0) (za zj zl))
def z2s (x:zyY) (y:zg8):Nat:=(Int.toNat x.2.2.1+Int.toNat x.2.2.2.2.1+y.1.Fs.length+y.2.1.Fs.length+1000)
def z19 (x:zzq) (y:zg8):Nat:=(Int.toNat x.2.2.1+y.1.Fs.length+y.2.1.Fs.length+1000)
def zFy:=zbV base 56 [(53,zod)] [] [(2,(kpL [2,3,5])),(6,(kpL [2,3,5,6,7]))] [(2,1,[]),(2,0,(kpL [4])),(6,3,(kpL [2,3,5,6]))] [(6,spW z4e z4h (zPs) default z3k z2s),(2,spW z42 z4h (zPx) (.inl default) zSV z19)] []
theorem z2K:zF zFy (lp (body f15) 1):=zq (id:=6) (hl:=rfl)
theorem z2c:zF zFy (lp (body f15) 0):=zq (id:=2) (hl:=rfl)
def zRK (a:Term) (b:Term):Wy0 (Bool):=.bn (zFs (Int.toNat 0+a.Fs.length+b.Fs.length+1000) 0 a b) λr4=>.i (isL r4) (.k (getL r4)) (.k true)
def zzS (a:Term) (b:Term):=(zRK a b).fin default
def z7Q:AL base zg8:=ze (zf (zcK 28)) (ze (zf (zcK 28)) zu)
def zKt:=zi z7Q λx=>((zzS x.1 x.2.1).1,zYq (zzS x.1 x.2.1).2)
theorem zYx:SdP 15 zKt:=
 sT (cx':=zFy) (zk ⟨ztV,trivial⟩) call15 func15 (lOK (aC z2c (aC z2K aN)))
abbrev zBm:=yC×Unit×Int×Bool×Int×Unit
abbrev zh0:=yC×Unit
abbrev zQ7:=yC×Int×Bool×yC
abbrev zBq:=yC×Unit×Int×Unit
def zGF (a:yC) (i:Int) (keep:Bool) (k:Int) (out_:yC):Wy zBm zh0 zQ7:=.i (decide (k<Int.ofNat a.length)) (.i (keep) (.i (k==i) (.h (a,(),i,true,(IntKind.i64.wrap (k+1)),()) (out_,())) (.i (decide (0<=k)&&decide (k<Int.ofNat a.length)) (.i (decide (0<=i)&&decide (i<Int.ofNat a.length)) (.bn (zzS (a.getD k.toNat default) (a.getD i.toNat default)) λr0=>.h (a,(),i,(!r0),(IntKind.i64.wrap (k+1)),()) (out_,())) .d) .d)) (.h (a,(),i,false,(IntKind.i64.wrap (k+1)),()) (out_,()))) (.k (a,i,keep,out_))
def zRh (x:zBm) (y:zh0):=zGF x.1 x.2.2.1 x.2.2.2.1 x.2.2.2.2.1 y.1
def zBg (n:Nat) (a:yC) (i:Int) (keep:Bool) (k:Int) (out_:yC):=zC (zRh) default n (a,(),i,keep,k,()) (out_,())
def z5g (r:zQ7):LTree ty:=.done (.exit 2) [.sl 28 r.1,.own 196,.lit (.int .i64 r.2.1),.lit (.bool r.2.2.1)] [.arr 28 r.2.2.2 false]
def z7H:LL ty zBm:=za (lSl 28) (za (zds 196) (za zj (za zbiF (za zj zl))))
def z6L:BL ty zh0:=zdA 28 false (zbd)
def zHj (a:yC) (i:Int) (out_:yC):Wy zBq zh0 (yC):=.i (decide (i<Int.ofNat a.length)) (.bn (zBg (a.length+i.toNat +Int.toNat 0+out_.length+1000) a i true 0 out_) λr2=>.i (r2.2.2.1) (.i (decide (0<=r2.2.1)&&decide (r2.2.1<Int.ofNat r2.1.length)) (.i (decide ((r2.2.2.2.length+[TO.mk 1 (r2.1.getD r2.2.1.toNat default).Fs].length)*32<=zN)) (.h ((r2.1),(),(IntKind.i64.wrap (r2.2.1+1)),()) ((r2.2.2.2++[TO.mk 1 (r2.1.getD r2.2.1.toNat default).Fs]),())) .d) .d) (.h ((r2.1),(),(IntKind.i64.wrap (r2.2.1+1)),()) ((r2.2.2.2),()))) (.k out_)
def zRs (x:zBq) (y:zh0):=zHj x.1 x.2.2.1 y.1
def zGJ (n:Nat) (a:yC) (i:Int) (out_:yC):=zC (zRs) default n (a,(),i,()) (out_,())
def z7F:LL ty zBq:=za (lSl 28) (za (zds 196) (za zj zl))
def z5d (x:zBm) (y:zh0):Nat:=(x.1.length+Int.toNat x.2.2.1+Int.toNat x.2.2.2.2.1+y.1.length+1000)
def z4j (x:zBq) (y:zh0):Nat:=(x.1.length+Int.toNat x.2.2.1+y.1.length+1000)
def zGE:=zbV base 49 [(15,zKt)] [] [(3,(kpL [0,3,4])),(7,(kpL [0,3,4,5,6]))] [(3,1,(kpL [3])),(7,3,(kpL [0,3,4,5]))] [(7,spW z7H z6L (zRh) default z5g z5d),(3,spW z7F z6L (zRs) default zSE z4j)] []
theorem z5G:zF zGE (lp (body f90) 1):=zq (id:=7) (hl:=rfl)
theorem z5l:zF zGE (lp (body f90) 0):=zq (id:=3) (hl:=rfl)
def zUJ (a:yC):Wy0 (yC):=.bn (zGJ (a.length+Int.toNat 0+0+1000) a 0 []) λr4=>.k r4
def zw8 (a:yC):=(zUJ a).fin default
def z9n:AL base zh0:=ze (zf (vSl 28)) zu
def zD8:=zi z9n λx=>((zw8 x.1).1,zS6 (zw8 x.1).2)
theorem zKc:SdP 90 zD8:=
 sT (cx':=zGE) (zk ⟨zYx,trivial⟩) call90 func90 (lOK (aC z5l (aC z5G aN))) (sg:=⟨[.own 28],[]⟩)
def z6x:=zbr base 8 [(16,zyN),(90,zD8)]
def zUg (a:yC):Wy0 (yC):=.bn (zfa a) λr1=>.i (!r1) (.k []) (.bn (zw8 a) λr0=>.k r0)
def zCW (a:yC):=(zUg a).fin default
def zMA:=zi zZm λx=>((zCW x.1).1,zS6 (zCW x.1).2)
theorem zY6:SdP 31 zMA:=
 sT (cx':=z6x) (zk ⟨zEv,zKc,trivial⟩) call31 func31 (lOK aN) (sg:=⟨[.own 28],[]⟩)
def z2e:=zbr base 11 [(16,zyN),(30,zuH),(90,zD8)]
def zP0 (a:yC):Wy0 (Bool):=.bn (zfa a) λr2=>.i (r2) (.bn (zw8 a) λr1=>.bn (zmu r1 a) λr0=>.k r0) (.k false)
def zxC (a:yC):=(zP0 a).fin default
def zIx:=zi zZm λx=>((zxC x.1).1,zYq (zxC x.1).2)
theorem zUY:SdP 33 zIx:=
 sT (cx':=z2e) (zk ⟨zEv,zzB,zKc,trivial⟩) call33 func33 (lOK aN)
abbrev zdB:=yC×Unit
def zmV (a:yC):Wy zdB Unit (Bool):=.bn (zmw a) λr4=>.bn (zCW a) λr3=>.bn (zmu r4 r3) λr2=>.i (r2) (.bn (zlk a) λr1=>.bn (zxC a) λr0=>.k (r1==r0)) (.k false)
def zmT (x:zdB) (y:Unit):=zmV x.1
def zv1 (n:Nat) (a:yC):=zC (zmT) default n (a,()) ()
def zHY:LL ty zdB:=za (lSl 28) zl
def zmR (a:yC):Wy zdB Unit (Bool):=.bn (zC5 60 [a]) λr11=>.i (!r11) (.k true) (.bn (zv1 1 a) λr10=>.k r10)
def zmS (x:zdB) (y:Unit):=zmR x.1
def zv8 (n:Nat) (a:yC):=zC (zmS) default n (a,()) ()
def zmM:=zbbf zb1 21 [(12,zOy),(13,zTT),(22,zvZ),(30,zuH),(31,zMA),(32,zAd),(33,zIx)] [] [(3,(kpL [0])),(5,(kpL [0]))] [(3,0,(kpL [2])),(5,0,(kpL [2]))] [] [] [(5,spW zHY zba6 (zmT) default z7b λx y=>(1)),(3,spW zHY zba6 (zmS) default z7b λx y=>(1))]
theorem zGD:zUr zmM (jn (body f8) 5):=z5S (id:=5) (hl:=rfl)
theorem zG3:zUr zmM (jn (body f8) 3):=z5S (id:=3) (hl:=rfl)
def zxF (a:yC):Wy0 (Bool):=.bn (zv8 1 a) λr14=>.k r14
def zfk (a:yC):=(zxF a).fin default
def zJt:AL zb1 zdB:=ze (zf (vSl 28)) zu
def zlA:=zi zJt λx=>((zfk x.1).1,zYq (zfk x.1).2)
theorem zFh:Sound Tryz.prog zb1 8 zlA:=
 z1F (cx':=zmM) zGC zO5 zbd0 (zbcs ⟨z2L,z6U.nodr,zDI,zzB.nodr,zY6.nodr,zKl.nodr,zUY.nodr,trivial⟩) call8 func8 (c:=body f8) (by kernel_rfl) (zXd (l:=[]) (by kernel_rfl) trivial (js:=[jn (body f8) 3,jn (body f8) 5]) (by kernel_rfl) ⟨zG3,zGD,trivial⟩) (sg:=⟨[.pure],[]⟩)
def trV (v:Value):TT:=.l [.i v.Kind,.i v.Int,trB v.Text]
mutual
def zdw:At->TT
 | ⟨k,r,a,f,i,o,b⟩=>.l [.i k,.i r.Table,.i r.Seq,.l (zz5 a),.i f,.l (zim i),.i o,trV b]
def ziy:Fc->TT
 | ⟨x,e⟩=>.l [zdw x,.i e]
def zbE:yD->List TT
 | []=>[]
 | x::r=>ziy x::zbE r
def zC3:Term->TT
 | ⟨c,fs⟩=>.l [.l (zbE fs),.i c]
def zdO:yC->List TT
 | []=>[]
 | x::r=>zC3 x::zdO r
def zz5:yA->List TT
 | []=>[]
 | x::r=>.l (zdO x)::zz5 r
def z8:Wd->TT
 | ⟨v,a⟩=>.l [trV v,.l (zdO a)]
def zim:yE->List TT
 | []=>[]
 | x::r=>z8 x::zim r
end
theorem zAi:∀ l,zbE l=l.map ziy
 | []=>by rw [zbE]; rfl
 | x::r=>by rw [zbE,zAi r]; rfl
theorem zKJ:∀ l,zdO l=l.map zC3
 | []=>by rw [zdO]; rfl
 | x::r=>by rw [zdO,zKJ r]; rfl
theorem zGQ:∀ l,zz5 l=l.map λx=>.l (zdO x)
 | []=>by rw [zz5]; rfl
 | x::r=>by rw [zz5,zGQ r]; rfl
theorem znU:∀ l,zim l=l.map z8
 | []=>by rw [zim]; rfl
 | x::r=>by rw [zim,znU r]; rfl
theorem zLU:∀ a b:List UInt8,(a.map λx=>TT.i (x.toNat:Int))=(b.map λx=>TT.i (x.toNat:Int))->a=b
 | [],[]=>λ_=>rfl
 | [],_::_=>λh=>by simp at h
 | _::_,[]=>λh=>by simp at h
 | x::a,y::b=>λh=>by
  simp only [List.map,qj,TT.i.injEq] at h;rw [zLU a b h.2,UInt8.toNat_inj.1 (Int.ofNat.inj h.1)]
theorem zbeB {a b:Value} (h:trV a=trV b):a=b:=by
 obtain ⟨k,n,s⟩:=a; obtain ⟨k',n',s'⟩:=b;simp only [trV,trB,TT.l.injEq,qj,TT.i.injEq,and_true] at h;obtain ⟨rfl,rfl,h⟩:=h;have:=zLU _ _ h;obtain ⟨⟨l⟩⟩:=s; obtain ⟨⟨l'⟩⟩:=s';simp only at this; subst this; rfl
mutual
theorem zVx:∀ a b:At,zdw a=zdw b->a=b
 | ⟨k,r,a,f,i,o,v⟩,⟨k',r',a',f',i',o',v'⟩=>λh=>by
  simp only [zdw,TT.l.injEq,qj,TT.i.injEq,and_true] at h;obtain ⟨rfl,h1,h2,h3,rfl,h4,rfl,h5⟩:=h;obtain ⟨t,s⟩:=r; obtain ⟨t',s'⟩:=r';simp only at h1 h2; subst h1 h2;rw [z6B a a' h3,z3K i i' h4,zbeB h5]
theorem z0K:∀ a b:Fc,ziy a=ziy b->a=b
 | ⟨x,e⟩,⟨x',e'⟩=>λh=>by
  simp only [ziy,TT.l.injEq,qj,TT.i.injEq,and_true] at h;rw [zVx x x' h.1,h.2]
theorem zFa:∀ a b:yD,zbE a=zbE b->a=b
 | [],[]=>λ_=>rfl
 | [],_::_=>λh=>by simp [zbE] at h
 | _::_,[]=>λh=>by simp [zbE] at h
 | x::a,y::b=>λh=>by
  simp only [zbE,qj] at h;rw [z0K x y h.1,zFa a b h.2]
theorem zbfz:∀ a b:Term,zC3 a=zC3 b->a=b
 | ⟨c,l⟩,⟨c',l'⟩=>λh=>by
  simp only [zC3,TT.l.injEq,qj,TT.i.injEq,and_true] at h;rw [zFa l l' h.1,h.2]
theorem zJ7:∀ a b:yC,zdO a=zdO b->a=b
 | [],[]=>λ_=>rfl
 | [],_::_=>λh=>by simp [zdO] at h
 | _::_,[]=>λh=>by simp [zdO] at h
 | x::a,y::b=>λh=>by
  simp only [zdO,qj] at h;rw [zbfz x y h.1,zJ7 a b h.2]
theorem z6B:∀ a b:yA,zz5 a=zz5 b->a=b
 | [],[]=>λ_=>rfl
 | [],_::_=>λh=>by simp [zz5] at h
 | _::_,[]=>λh=>by simp [zz5] at h
 | x::a,y::b=>λh=>by
  simp only [zz5,qj,TT.l.injEq] at h;rw [zJ7 x y h.1,z6B a b h.2]
theorem z6v:∀ a b:Wd,z8 a=z8 b->a=b
 | ⟨c,l⟩,⟨c',l'⟩=>λh=>by
  simp only [z8,TT.l.injEq,qj,and_true] at h;rw [zbeB h.1,zJ7 l l' h.2]
theorem z3K:∀ a b:yE,zim a=zim b->a=b
 | [],[]=>λ_=>rfl
 | [],_::_=>λh=>by simp [zim] at h
 | _::_,[]=>λh=>by simp [zim] at h
 | x::a,y::b=>λh=>by
  simp only [zim,qj] at h;rw [z6v x y h.1,z3K a b h.2]
end
def zdd (P:yC->Prop) (x:At):Prop:=
 (x.Ag.length<=1000000/\x.Items.length<=1000000/\x.Bd.Text.size<=1000000000000)/\(∀ a∈x.Ag,P a)/\∀ w∈x.Items,w.Value.Text.size<=1000000000000/\P w.Ann
def zcs (P:yC->Prop) (l:yD):Prop:=l.length<=1000000/\∀ f∈l,zdd P f.At
def zo:Nat->yC->Prop
 | 0,_=>False
 | n+1,a=>a.length<=1000000/\∀ t∈a,zcs (zo n) t.Fs
theorem zdd.imp {P Q:yC->Prop} (h:∀ a,P a->Q a) {x:At} (hx:zdd P x):zdd Q x:=⟨hx.1,λa ha=>h a (hx.2.1 a ha),λw hw=>⟨(hx.2.2 w hw).1,h _ (hx.2.2 w hw).2⟩⟩
theorem zo.succ:∀ (n:Nat) (a:yC),zo n a->zo (n+1) a
 | 0,_,h=>h.elim
 | n+1,a,h=>⟨h.1,λt ht=>⟨(h.2 t ht).1,λf hf=>((h.2 t ht).2 f hf).imp (zo.succ n)⟩⟩
theorem zo.mono {n m:Nat} {a:yC} (h:zo n a) (hm:n<=m):zo m a:=by
 obtain ⟨k,rfl⟩:=Nat.exists_eq_add_of_le hm;clear hm;induction k with
 | zero=>exact h
 | succ k ih=>exact zo.succ _ _ ih
def dvF (a b:yD):Bool:=a.all λf=>b.any λg=>decide (f.Exp<=g.Exp)&&decide (f.At=g.At)
theorem z8G {a b:yD}:dvF a b=true↔∀ f∈a,∃ g∈b,f.Exp<=g.Exp/\f.At=g.At:=by
 unfold dvF;simp only [List.all_eq_true,List.any_eq_true,qc,qe]
theorem zbg8 (a:yD):dvF a a=true:=z8G.2 λf hf=>⟨f,hf,Int.le_refl _,rfl⟩
def cFx (f g:Fc):Int:=zbf (ziy f) (ziy g)
theorem z6I {α:Type} (e:α->TT) (he:∀ a b,e a=e b->a=b):Ord3 λa b=>zbf (e a) (e b) where
 eq x y:=⟨λh=>he _ _ (zuj _ _ h),λh=>by subst h; exact zFP _⟩
 swap x y:=by rw [ze6 (e x) (e y)]; omega
 trans x y z h1 h2:=by
  have h3:zbf (e x) (e z)<=0:=zuJ _ _ _ (Int.le_of_lt h1) (Int.le_of_lt h2);by_cases h4:zbf (e x) (e z)=0
  ·have h5:=zuj _ _ h4;rw [h5,ze6 (e y) (e z)] at h1;omega
  ·omega
theorem zblV:Ord3 cFx:=z6I ziy z0K
abbrev zVP (l:yD):Prop:=l.Pairwise λf g=>zbf (zdw f.At) (zdw g.At)<0
theorem zVP.sasc {l:yD} (h:zVP l):zbhY cFx l:=h.imp λ{f g} hfg=>by
 obtain ⟨x,e⟩:=f; obtain ⟨y,e'⟩:=g;show zbf (ziy ⟨x,e⟩) (ziy ⟨y,e'⟩)<0;have hfg:zbf (zdw x) (zdw y)<0:=hfg;simp only [ziy,zbf,zbO];rw [if_neg (by omega)]
 exact hfg
theorem zVP.uniq {l:yD} (h:zVP l):∀ f∈l,∀ g∈l,f.At=g.At->f=g:=by
 induction l with
 | nil=>intro f hf; cases hf
 | cons x r ih=>
  have h:=qi.1 h
  have ne:∀ g∈r,x.At≠g.At:=λg hg e=>by
   have:=h.1 g hg;rw [e,zFP] at this; omega
  intro f hf g hg e;rcases qd.1 hf with e1 | hf1
  ·rcases qd.1 hg with e2 | hg1
   ·rw [e1,e2]
   ·rw [e1] at e; exact absurd e (ne g hg1)
  ·rcases qd.1 hg with e2 | hg1
   ·rw [e2] at e; exact absurd e.symm (ne f hf1)
   ·exact ih h.2 f hf1 g hg1 e
theorem zbhB {a b:yD} (ha:zVP a) (hb:zVP b) (h1:dvF a b=true) (h2:dvF b a=true):a=b:=by
 have key:∀ {a b:yD},zVP a->zVP b->dvF a b=true->dvF b a=true->∀ f∈a,f∈b:=by
  intro a b ha hb h1 h2 f hf;obtain ⟨g,hg,e1,e2⟩:=z8G.1 h1 f hf;obtain ⟨f',hf',e3,e4⟩:=z8G.1 h2 g hg;have:=ha.uniq f hf f' hf' (e2.trans e4);subst this
  have:f=g:=by
   obtain ⟨x,n⟩:=f; obtain ⟨y,m⟩:=g;simp only at e1 e2 e3 e4;subst e2;have:n=m:=by omega
   subst this; rfl
  subst this; exact hg
 exact z3S zblV ha.sasc hb.sasc λx=>⟨key ha hb h1 h2 x,key hb ha h2 h1 x⟩
def cL (a b:yD):Int:=zbf (.l (zbE a)) (.l (zbE b))
theorem zbli:Ord3 cL:=z6I (λa=>.l (zbE a)) λa b h=>zFa _ _ (TT.l.inj h)
structure Canon (a:yC):Prop where
 asc:a.Pairwise λt u=>cL t.Fs u.Fs<0
 fac:∀ t∈a,zVP t.Fs
theorem Canon.tail {t:Term} {a:yC} (h:Canon (t::a)):Canon a:=⟨(qi.1 h.asc).2,λx hx=>h.fac x (by simp [hx])⟩
theorem Canon.uniq {a:yC} (h:Canon a):∀ t∈a,∀ u∈a,t.Fs=u.Fs->t=u:=by
 have hp:=h.asc;clear h;induction a with
 | nil=>intro t ht; cases ht
 | cons x r ih=>
  have hp:=qi.1 hp
  have ne:∀ g∈r,x.Fs≠g.Fs:=λg hg e=>by
   have:=hp.1 g hg;rw [e,zbli.refl] at this; omega
  intro f hf g hg e;rcases qd.1 hf with e1 | hf1
  ·rcases qd.1 hg with e2 | hg1
   ·rw [e1,e2]
   ·rw [e1] at e; exact absurd e (ne g hg1)
  ·rcases qd.1 hg with e2 | hg1
   ·rw [e2] at e; exact absurd e.symm (ne f hf1)
   ·exact ih hp.2 f hf1 g hg1 e
def zSw (a:yC) (t:Term):Bool:=a.all λu=> !dvF u.Fs t.Fs||decide (u.Fs=t.Fs)
theorem zbcj {a:yC} {t:Term}:zSw a t=true↔∀ u∈a,dvF u.Fs t.Fs=true->u.Fs=t.Fs:=by
 unfold zSw;simp only [List.all_eq_true,Bool.or_eq_true,Bool.not_eq_true',qe];constructor
 ·intro h u hu hd;rcases h u hu with h | h
  ·rw [hd] at h; cases h
  ·exact h
 ·intro h u hu;cases hd:dvF u.Fs t.Fs with
  | false=>exact .inl rfl
  | true=>exact .inr (h u hu hd)
def zy4 (a:yC):yC:=(a.filter (zSw a)).map λt=>⟨1,t.Fs⟩
theorem zPk {a:yC} {t:Term}:t∈zy4 a↔∃ u∈a,zSw a u=true/\t=⟨1,u.Fs⟩:=by
 unfold zy4;rw [List.mem_map];constructor
 ·rintro ⟨u,hu,rfl⟩
  have:=List.mem_filter.1 hu;exact ⟨u,this.1,this.2,rfl⟩
 ·rintro ⟨u,h1,h2,rfl⟩
  exact ⟨u,List.mem_filter.2 ⟨h1,h2⟩,rfl⟩
theorem zbfa {a:yC} (h:Canon a):Canon (zy4 a):=by
 refine ⟨?_,λt ht=> ?_⟩
 ·unfold zy4;rw [List.pairwise_map];exact h.asc.filter _
 ·obtain ⟨u,hu,_,rfl⟩:=zPk.1 ht;exact h.fac u hu
def leS (a b:yC):Bool:=a.all λt=>b.any λu=>dvF u.Fs t.Fs
theorem zbdW {a b:yC}:leS a b=true↔∀ t∈a,∃ u∈b,dvF u.Fs t.Fs=true:=by
 unfold leS;simp only [List.all_eq_true,List.any_eq_true]
theorem zbhO (a:yC):leS a a=true:=zbdW.2 λt ht=>⟨t,ht,zbg8 _⟩
def zbbd (a b s:yC):Prop:=∀ l:yD,(∃ t∈s,t.Fs=l)↔(∃ t∈a,t.Fs=l)\/∃ t∈b,t.Fs=l
theorem zbbd.le {a b s c:yC} (h:zbbd a b s):leS s c=true↔leS a c=true/\leS b c=true:=by
 simp only [zbdW];constructor
 ·intro hs;refine ⟨λt ht=> ?_,λt ht=> ?_⟩
  ·obtain ⟨t',ht',e⟩:=(h t.Fs).2 (.inl ⟨t,ht,rfl⟩);rw [<- e]; exact hs t' ht'
  ·obtain ⟨t',ht',e⟩:=(h t.Fs).2 (.inr ⟨t,ht,rfl⟩);rw [<- e]; exact hs t' ht'
 ·rintro ⟨h1,h2⟩ t ht
  rcases (h t.Fs).1 ⟨t,ht,rfl⟩ with ⟨u,hu,e⟩ | ⟨u,hu,e⟩
  ·rw [<- e]; exact h1 u hu
  ·rw [<- e]; exact h2 u hu
theorem zbbd.ge {a b s:yC} (h:zbbd a b s):leS a s=true/\leS b s=true:=(h.le (c:=s)).1 (zbhO s)
theorem zmJ:∀ {l:yD},zuA l->∀ x∈l,zzs x
 | [],_,x,hx=>by cases hx
 | y::r,h,x,hx=>by
  unfold zuA at h;rcases qd.1 hx with rfl | hx
  ·exact h.1
  ·exact zmJ h.2 x hx
theorem zrc:∀ {l:yC},zgX l->∀ x∈l,zEJ x
 | [],_,x,hx=>by cases hx
 | y::r,h,x,hx=>by
  unfold zgX at h;rcases qd.1 hx with rfl | hx
  ·exact h.1
  ·exact zrc h.2 x hx
theorem zh4:∀ {l:yA},zzV l->∀ x∈l,zgX x/\x.length<=zbl
 | [],_,x,hx=>by cases hx
 | y::r,h,x,hx=>by
  unfold zzV at h;rcases qd.1 hx with rfl | hx
  ·exact h.1
  ·exact zh4 h.2 x hx
theorem zgu:∀ {l:yE},zug l->∀ x∈l,zVI x.Value/\zgX x.Ann/\x.Ann.length<=zbl
 | [],_,x,hx=>by cases hx
 | y::r,h,x,hx=>by
  unfold zug at h;rcases qd.1 hx with rfl | hx
  ·have:=h.1; unfold zLm at this; exact ⟨this.1,this.2.1,this.2.2⟩
  ·exact zgu h.2 x hx
theorem zuz {t:Term} (h:zEJ t):wf2 t.Cf/\zuA t.Fs/\t.Fs.length<=zbl:=by
 unfold zEJ at h; exact ⟨h.1,h.2.1,h.2.2⟩
theorem zoq {t:Fc} (h:zzs t):zgN t.At/\wf3 t.Exp:=by
 unfold zzs at h; exact h
theorem znZ {x:At} (h:zgN x):(zzV x.Ag/\x.Ag.length<=zbl)/\(zug x.Items/\x.Items.length<=zbl)/\zVI x.Bd/\wf3 x.Kind/\zZh x.Row/\wf3 x.Func/\wf3 x.Op:=by
 obtain ⟨k,r,a,f,i,o,b⟩:=x; unfold zgN at h; exact ⟨h.2.2.1,h.2.2.2.2.1,h.2.2.2.2.2.2,h.1,h.2.1,h.2.2.2.1,h.2.2.2.2.2.1⟩
theorem zcd {z:Int} (h0: -4611686018427387904<=z) (h:z<4611686018427387904):IntKind.i64.wrap z=z:=z1V (by omega) (by omega)
mutual
def zIO:At->Nat
 | ⟨_,_,a,_,i,_,b⟩=>i.length+a.length+b.Text.size+zrF a+zmm i
def zhX:yD->Nat
 | []=>0
 | ⟨x,_⟩::r=>zIO x+zhX r
def ze0:yC->Nat
 | []=>0
 | ⟨_,fs⟩::r=>1+fs.length+zhX fs+ze0 r
def zrF:yA->Nat
 | []=>0
 | a::r=>ze0 a+zrF r
def zmm:yE->Nat
 | []=>0
 | ⟨v,a⟩::r=>v.Text.size+ze0 a+zmm r
end
theorem z7R (x:At):zIO x=x.Items.length+x.Ag.length+x.Bd.Text.size+zrF x.Ag+zmm x.Items:=by cases x; rw [zIO]
theorem zQ5 (f:Fc) (r:yD):zhX (f::r)=zIO f.At+zhX r:=by cases f; rw [zhX]
theorem zS5 (t:Term) (r:yC):ze0 (t::r)=1+t.Fs.length+zhX t.Fs+ze0 r:=by cases t; rw [ze0]
theorem z0E (a:yC) (r:yA):zrF (a::r)=ze0 a+zrF r:=by rw [zrF]
theorem zMj (w:Wd) (r:yE):zmm (w::r)=w.Value.Text.size+ze0 w.Ann+zmm r:=by cases w; rw [zmm]
theorem zbdM:zrF []=0:=by rw [zrF]
theorem zbcU:zmm []=0:=by rw [zmm]
theorem z87:zhX []=0:=by rw [zhX]
theorem zbfl:ze0 []=0:=by rw [ze0]
section
variable (g:yC->Int->Int->Bool×Int) (a:yC) (limit d:Nat) (hl:limit<=1000) (hd:d<=100) (B:Nat) (hB:B<=1152921504606846976) (P:yC->Prop)
include hl hd hB
theorem w14 (x:At) (i k:Int) (hlen:x.Ag.length<=zbl) (hg:∀ y∈x.Ag,∀ l:Nat,l<=1000->∃ w:Nat,g y l d=(true,(w:Int))/\w<=B/\(w<=l->P y/\ze0 y<=w)):
  ∀ (fuel j n:Nat),x.Ag.length<j+fuel->j<=x.Ag.length->n<=2305843009213693952->∃ n':Nat,zCN g fuel a limit (d+1:Nat) n i k j x=(true,(a,(limit:Int),((d+1:Nat):Int),(n':Int),i,k,x))/\n<=n'/\n'<=max n (limit+B)/\(n'<=limit->(∀ y∈x.Ag.drop j,P y)/\n+zrF (x.Ag.drop j)<=n')
 | 0,j,n,h1,h2,h3=>by omega
 | fuel+1,j,n,h1,h2,h3=>by
  show ∃ n':Nat,(zCY g a limit (d+1:Nat) n i k j x).ev (λx y=>zCN g fuel x.1 x.2.1 x.2.2.1 x.2.2.2.1 x.2.2.2.2.1 x.2.2.2.2.2.1 x.2.2.2.2.2.2.2.1 y.1) (λr=>(true,r)) (false,default)=_/\_
  unfold zCY;have hml:zbl=140737488351232:=rfl;by_cases hj:j<x.Ag.length
  ·by_cases hn:n<=limit
   ·have e1:IntKind.i64.wrap ((limit:Int) - (n:Int))=((limit - n:Nat):Int):=by rw [zcd (by omega) (by omega)]; omega
    obtain ⟨w,hw,hwB,hwP⟩:=hg _ (zp hj) (limit - n) (by omega)
    have ed:IntKind.i64.wrap (((d+1:Nat):Int) - 1)=(d:Int):=by rw [zcd (by omega) (by omega)]; omega
    simp only [Wy.ev_i,Wy.ev_k,Wy.ev_h,Wy.ev_bn,Wy.ev_d,tT,hj,zEK,hn,e1,ed,hw];have e3:IntKind.i64.wrap ((n:Int)+(w:Int))=((n+w:Nat):Int):=by rw [zcd (by omega) (by omega)]; omega
    rw [e3,zL (by omega)]
    obtain ⟨n',h4,h5,h6,h7⟩:=w14 x i k hlen hg fuel (j+1) (n+w) (by omega) (by omega) (by omega)
    refine ⟨n',h4,by omega,by omega,λhn'=> ?_⟩
    obtain ⟨h8,h9⟩:=h7 hn';obtain ⟨p1,p2⟩:=hwP (by omega)
    rw [zby hj,z0E];refine ⟨λy hy=> ?_,by omega⟩
    rcases qd.1 hy with rfl | hy
    ·exact p1
    ·exact h8 y hy
   ·simp only [Wy.ev_i,Wy.ev_k,Wy.ev_h,Wy.ev_bn,Wy.ev_d,tT,hj,zEK,hn];exact ⟨n,rfl,Nat.le_refl _,by omega,λh=>absurd h hn⟩
  ·simp only [Wy.ev_i,Wy.ev_k,Wy.ev_h,Wy.ev_bn,Wy.ev_d,tT,hj];exact ⟨n,rfl,Nat.le_refl _,by omega,λ_=>by rw [zc3 hj,zbdM]; exact ⟨λy hy=>(by cases hy),Nat.le_refl _⟩⟩
theorem w18 (x:At) (i k:Int) (hlen:x.Items.length<=zbl) (hg:∀ y∈x.Items,y.Value.Text.size<=zbl/\∀ l:Nat,l<=1000->∃ w:Nat,g y.Ann l d=(true,(w:Int))/\w<=B/\(w<=l->P y.Ann/\ze0 y.Ann<=w)):
  ∀ (fuel j n:Nat),x.Items.length<j+fuel->j<=x.Items.length->n<=2305843009213693952->∃ n':Nat,zB8 g fuel a limit (d+1:Nat) n i k j x=(true,(a,(limit:Int),((d+1:Nat):Int),(n':Int),i,k))/\n<=n'/\n'<=max n (limit+zbl+B)/\(n'<=limit->(∀ y∈x.Items.drop j,y.Value.Text.size<=1000/\P y.Ann)/\n+zmm (x.Items.drop j)<=n')
 | 0,j,n,h1,h2,h3=>by omega
 | fuel+1,j,n,h1,h2,h3=>by
  show ∃ n':Nat,(zCj g a limit (d+1:Nat) n i k j x).ev (λx y=>zB8 g fuel x.1 x.2.1 x.2.2.1 x.2.2.2.1 x.2.2.2.2.1 x.2.2.2.2.2.1 x.2.2.2.2.2.2.2.1 y.1) (λr=>(true,r)) (false,default)=_/\_
  unfold zCj;have hml:zbl=140737488351232:=rfl;by_cases hj:j<x.Items.length
  ·by_cases hn:n<=limit
   ·have e1:IntKind.i64.wrap ((limit:Int) - (n:Int))=((limit - n:Nat):Int):=by rw [zcd (by omega) (by omega)]; omega
    obtain ⟨ht,hgy⟩:=hg _ (zp hj);obtain ⟨w,hw,hwB,hwP⟩:=hgy (limit - n) (by omega)
    have ed:IntKind.i64.wrap (((d+1:Nat):Int) - 1)=(d:Int):=by rw [zcd (by omega) (by omega)]; omega
    simp only [Wy.ev_i,Wy.ev_k,Wy.ev_h,Wy.ev_bn,Wy.ev_d,tT,hj,zEK,hn,e1,ed,hw];generalize hsz:(x.Items.getD j default).Value.Text.size=sz at *;have e3:IntKind.i64.wrap (IntKind.i64.wrap ((n:Int)+(sz:Int))+(w:Int))=((n+sz+w:Nat):Int):=by rw [zcd (z:=(n:Int)+(sz:Int)) (by omega) (by omega),zcd (by omega) (by omega)]; omega
    rw [e3,zL (by omega)]
    obtain ⟨n',h4,h5,h6,h7⟩:=w18 x i k hlen hg fuel (j+1) (n+sz+w) (by omega) (by omega) (by omega)
    refine ⟨n',h4,by omega,by omega,λhn'=> ?_⟩
    obtain ⟨h8,h9⟩:=h7 hn';obtain ⟨p1,p2⟩:=hwP (by omega)
    rw [zby hj,zMj];refine ⟨λy hy=> ?_,by omega⟩
    rcases qd.1 hy with rfl | hy
    ·exact ⟨by omega,p1⟩
    ·exact h8 y hy
   ·simp only [Wy.ev_i,Wy.ev_k,Wy.ev_h,Wy.ev_bn,Wy.ev_d,tT,hj,zEK,hn];exact ⟨n,rfl,Nat.le_refl _,by omega,λh=>absurd h hn⟩
  ·simp only [Wy.ev_i,Wy.ev_k,Wy.ev_h,Wy.ev_bn,Wy.ev_d,tT,hj];exact ⟨n,rfl,Nat.le_refl _,by omega,λ_=>by rw [zc3 hj,zbcU]; exact ⟨λy hy=>(by cases hy),Nat.le_refl _⟩⟩
theorem w9 (i:Nat) (hi:i<a.length) (hla:(a.getD i default).Fs.length<=zbl) (hg:∀ f∈(a.getD i default).Fs,f.At.Ag.length<=zbl/\f.At.Items.length<=zbl/\f.At.Bd.Text.size<=zbl/\(∀ y∈f.At.Ag,∀ l:Nat,l<=1000->∃ w:Nat,g y l d=(true,(w:Int))/\w<=B/\(w<=l->P y/\ze0 y<=w))/\
   ∀ y∈f.At.Items,y.Value.Text.size<=zbl/\∀ l:Nat,l<=1000->∃ w:Nat,g y.Ann l d=(true,(w:Int))/\w<=B/\(w<=l->P y.Ann/\ze0 y.Ann<=w)):
  ∀ (fuel k n:Nat),(a.getD i default).Fs.length<k+fuel->k<=(a.getD i default).Fs.length->n<=2305843009213693952->∃ n':Nat,zEi g fuel a limit (d+1:Nat) n i k=(true,(a,(limit:Int),((d+1:Nat):Int),(n':Int),(i:Int)))/\n<=n'/\n'<=max n (limit+4*zbl+B)/\
   (n'<=limit->(∀ f∈(a.getD i default).Fs.drop k,(f.At.Ag.length<=1000/\f.At.Items.length<=1000/\f.At.Bd.Text.size<=1000)/\(∀ y∈f.At.Ag,P y)/\∀ y∈f.At.Items,y.Value.Text.size<=1000/\P y.Ann)/\n+zhX ((a.getD i default).Fs.drop k)<=n')
 | 0,k,n,h1,h2,h3=>by omega
 | fuel+1,k,n,h1,h2,h3=>by
  show ∃ n':Nat,(zD6 g a limit (d+1:Nat) n i k).ev (λx y=>zEi g fuel x.1 x.2.1 x.2.2.1 x.2.2.2.1 x.2.2.2.2.1 x.2.2.2.2.2.1) (λr=>(true,r)) (false,default)=_/\_
  unfold zD6;have hml:zbl=140737488351232:=rfl;by_cases hk:k<(a.getD i default).Fs.length
  ·by_cases hn:n<=limit
   ·simp only [Wy.ev_i,Wy.ev_k,Wy.ev_h,Wy.ev_bn,Wy.ev_d,tT,hi,hk,zEK,hn,At.eta];obtain ⟨ha1,ha2,ha3,hgA,hgI⟩:=hg _ (zp hk);generalize hf:((a.getD i default).Fs.getD k default)=f at *
    have e0:IntKind.i64.wrap (IntKind.i64.wrap (IntKind.i64.wrap ((n:Int)+(f.At.Items.length:Int))+(f.At.Ag.length:Int))+(f.At.Bd.Text.size:Int))=((n+f.At.Items.length+f.At.Ag.length+f.At.Bd.Text.size:Nat):Int):=by
     rw [zcd (z:=(n:Int)+(f.At.Items.length:Int)) (by omega) (by omega),zcd (z:=(n:Int)+(f.At.Items.length:Int)+(f.At.Ag.length:Int)) (by omega) (by omega),zcd (by omega) (by omega)]; omega
    rw [e0];obtain ⟨n1,q1,q2,q3,q4⟩:=w14 g a limit d hl hd B hB P f.At i k ha1 hgA (a.length+limit+(d+1)+((n+f.At.Items.length+f.At.Ag.length+f.At.Bd.Text.size:Nat):Int).toNat +i+k+Int.toNat 0+f.At.Ag.length+f.At.Items.length+1) 0 (n+f.At.Items.length+f.At.Ag.length+f.At.Bd.Text.size) (by omega) (by omega) (by omega)
    rw [show ((0:Nat):Int)=(0:Int) from rfl] at q1
    rw [q1];simp only [cond_true,At.eta,Int.toNat_natCast];obtain ⟨n2,r1,r2,r3,r4⟩:=w18 g a limit d hl hd B hB P f.At i k ha2 hgI (a.length+limit+(d+1)+n1+i+k+Int.toNat 0+f.At.Ag.length+f.At.Items.length+1) 0 n1 (by omega) (by omega) (by omega)
    rw [show ((0:Nat):Int)=(0:Int) from rfl] at r1
    rw [r1];simp only [cond_true];rw [zL (by omega)]
    obtain ⟨n',h4,h5,h6,h7⟩:=w9 i hi hla hg fuel (k+1) n2 (by omega) (by omega) (by omega)
    refine ⟨n',h4,by omega,by omega,λhn'=> ?_⟩
    obtain ⟨h8,h9⟩:=h7 hn';obtain ⟨q5,q6⟩:=q4 (by omega)
    obtain ⟨r5,r6⟩:=r4 (by omega)
    rw [List.drop_zero] at q5 q6 r5 r6;rw [zby hk,zQ5,hf,z7R];refine ⟨λy hy=> ?_,by omega⟩
    rcases qd.1 hy with rfl | hy
    ·exact ⟨⟨by omega,by omega,by omega⟩,q5,r5⟩
    ·exact h8 y hy
   ·simp only [Wy.ev_i,Wy.ev_k,Wy.ev_h,Wy.ev_bn,Wy.ev_d,tT,hi,hk,zEK,hn];exact ⟨n,rfl,Nat.le_refl _,by omega,λh=>absurd h hn⟩
  ·simp only [Wy.ev_i,Wy.ev_k,Wy.ev_h,Wy.ev_bn,Wy.ev_d,tT,hi,hk];exact ⟨n,rfl,Nat.le_refl _,by omega,λ_=>by rw [zc3 hk,z87]; exact ⟨λy hy=>(by cases hy),Nat.le_refl _⟩⟩
theorem w5 (hla:∀ t∈a,t.Fs.length<=zbl) (hg:∀ t∈a,∀ f∈t.Fs,f.At.Ag.length<=zbl/\f.At.Items.length<=zbl/\f.At.Bd.Text.size<=zbl/\(∀ y∈f.At.Ag,∀ l:Nat,l<=1000->∃ w:Nat,g y l d=(true,(w:Int))/\w<=B/\(w<=l->P y/\ze0 y<=w))/\
   ∀ y∈f.At.Items,y.Value.Text.size<=zbl/\∀ l:Nat,l<=1000->∃ w:Nat,g y.Ann l d=(true,(w:Int))/\w<=B/\(w<=l->P y.Ann/\ze0 y.Ann<=w)) (hlen:a.length<=zbl):
  ∀ (fuel i n:Nat),a.length<i+fuel->i<=a.length->n<=2305843009213693952->∃ n':Nat,zEr g fuel a limit (d+1:Nat) n i=(true,(n':Int))/\n<=n'/\n'<=max n (limit+6*zbl+B)/\
   (n'<=limit->(n+(a.length - i)<=n'/\n+ze0 (a.drop i)<=n')/\∀ t∈a.drop i,t.Fs.length<=1000/\∀ f∈t.Fs,(f.At.Ag.length<=1000/\f.At.Items.length<=1000/\f.At.Bd.Text.size<=1000)/\(∀ y∈f.At.Ag,P y)/\∀ y∈f.At.Items,y.Value.Text.size<=1000/\P y.Ann)
 | 0,i,n,h1,h2,h3=>by omega
 | fuel+1,i,n,h1,h2,h3=>by
  show ∃ n':Nat,(zEn g a limit (d+1:Nat) n i).ev (λx y=>zEr g fuel x.1 x.2.1 x.2.2.1 x.2.2.2.1 x.2.2.2.2.1) (λr=>(true,r)) (false,default)=_/\_
  unfold zEn;have hml:zbl=140737488351232:=rfl;by_cases hi:i<a.length
  ·by_cases hn:n<=limit
   ·simp only [Wy.ev_i,Wy.ev_k,Wy.ev_h,Wy.ev_bn,Wy.ev_d,tT,hi,zEK,hn];have hla':=hla _ (zp hi)
    have e0:IntKind.i64.wrap (IntKind.i64.wrap ((n:Int)+1)+((a.getD i default).Fs.length:Int))=((n+1+(a.getD i default).Fs.length:Nat):Int):=by
     rw [zL (by omega),zcd (by omega) (by omega)]; omega
    rw [e0];obtain ⟨n1,q1,q2,q3,q4⟩:=w9 g a limit d hl hd B hB P i hi hla' (hg _ (zp hi)) (a.length+limit+(d+1)+((n+1+(a.getD i default).Fs.length:Nat):Int).toNat +i+Int.toNat 0+1) 0 (n+1+(a.getD i default).Fs.length) (by omega) (by omega) (by omega)
    rw [show ((0:Nat):Int)=(0:Int) from rfl] at q1
    rw [q1];simp only [cond_true];rw [zL (by omega)]
    obtain ⟨n',h4,h5,h6,h7⟩:=w5 hla hg hlen fuel (i+1) n1 (by omega) (by omega) (by omega)
    refine ⟨n',h4,by omega,by omega,λhn'=> ?_⟩
    obtain ⟨⟨h8,h10⟩,h9⟩:=h7 hn';obtain ⟨q5,q6⟩:=q4 (by omega)
    rw [List.drop_zero] at q5 q6;rw [zby hi,zS5];refine ⟨⟨by omega,by omega⟩,λy hy=> ?_⟩
    rcases qd.1 hy with rfl | hy
    ·exact ⟨by omega,q5⟩
    ·exact h9 y hy
   ·simp only [Wy.ev_i,Wy.ev_k,Wy.ev_h,Wy.ev_bn,Wy.ev_d,tT,hi,zEK,hn];exact ⟨n,rfl,Nat.le_refl _,by omega,λh=>absurd h hn⟩
  ·simp only [Wy.ev_i,Wy.ev_k,Wy.ev_h,Wy.ev_bn,Wy.ev_d,tT,hi];exact ⟨n,rfl,Nat.le_refl _,by omega,λ_=>by rw [zc3 hi,zbfl]; exact ⟨⟨by omega,Nat.le_refl _⟩,λy hy=>(by cases hy)⟩⟩
end
theorem z9H:∀ (d N:Nat),d<N->d<=12->∀ (l:Nat),l<=1000->∀ a,zgX a->a.length<=zbl->∃ w:Nat,zrw N a l d=(true,(w:Int))/\w<=(d+1)*4503599627370496/\(w<=l->zo d a/\ze0 a<=w)
 | _,0,h,_,_,_,_,_,_=>by omega
 | 0,N+1,_,_,l,hl,a,hw,hlen=>by
  rw [zMV];unfold zxu zFr;refine ⟨l+1, ?_,by omega,λh=>by omega⟩
  simp only [Wy.fin_i,Wy.fin_k];rw [zL (by omega)]; rfl
 | d+1,N+1,hN,hd,l,hl,a,hw,hlen=>by
  rw [zMV];unfold zxu zFr;have hml:zbl=140737488351232:=rfl;have ih:=λy (h1:zgX y) (h2:y.length<=zbl) l hl=>z9H d N (by omega) (by omega) l hl y h1 h2
  have e0:(((d+1:Nat):Int)==(0:Int))=false:=by
   rw [beq_eq_false_iff_ne]; omega
  obtain ⟨n',h1,h2,h3,h4⟩:=w5 (zrw N) a l d hl (by omega) ((d+1)*4503599627370496) (by omega) (zo d) (λt ht=>(zuz (zrc hw t ht)).2.2) (λt ht f hf=>by
   have hx:=znZ (zoq (zmJ (zuz (zrc hw t ht)).2.1 f hf)).1;refine ⟨hx.1.2,hx.2.1.2,hx.2.2.1.2.2,λy hy l hl=> ?_,λy hy=> ?_⟩
   ·have:=zh4 hx.1.1 y hy;exact ih y this.1 this.2 l hl
   ·have:=zgu hx.2.1.1 y hy;exact ⟨this.1.2.2,λl hl=>ih y.Ann this.2.1 this.2.2 l hl⟩) hlen (a.length+l+(d+1)+Int.toNat 0+Int.toNat 0+1) 0 0 (by omega) (by omega) (by omega)
  rw [show ((0:Nat):Int)=(0:Int) from rfl] at h1
  refine ⟨n', ?_,by omega,λhn=> ?_⟩
  ·simp only [Wy.fin_i,Wy.fin_k,Wy.fin_bn,e0,cond_false,Int.toNat_natCast,h1,cond_true]
  ·obtain ⟨⟨h5,h12⟩,h6⟩:=h4 hn;rw [List.drop_zero] at h12;refine ⟨⟨by omega,λt ht=> ?_⟩,by omega⟩
   obtain ⟨h7,h8⟩:=h6 t (by simpa using ht)
   refine ⟨by omega,λf hf=> ?_⟩
   obtain ⟨h9,h10,h11⟩:=h8 f hf;exact ⟨⟨by omega,by omega,by omega⟩,h10,λw hw=>⟨by have:=(h11 w hw).1; omega,(h11 w hw).2⟩⟩
theorem zbbG (limit:Nat) (hl:limit<=1000) (l:yA) (hll:l.length<=1000) (hw:∀ a∈l,zgX a/\a.length<=zbl):∀ (n i:Nat),l.length<i+n->i<=l.length->∃ r,zPB n limit l i=(true,r)/\((r=.inl false)\/(r=.inr ()/\∀ a∈l.drop i,zo 12 a/\ze0 a<=limit))
 | 0,i,h1,h2=>by omega
 | n+1,i,h1,h2=>by
  show ∃ r,(zOA limit l i).ev (λx y=>zPB n x.1 x.2.1 x.2.2.1) (λr=>(true,r)) (false,.inl default)=(true,r)/\_
  unfold zOA;by_cases hi:i<l.length
  ·obtain ⟨w,q1,q2,q3⟩:=z9H 12 1000 (by omega) (by omega) limit hl _ (hw _ (zp hi)).1 (hw _ (zp hi)).2
   have q1':zP9 (l.getD i default) (limit:Int) 12=(true,(w:Int)):=q1;simp only [Wy.ev_i,Wy.ev_k,Wy.ev_h,Wy.ev_bn,Wy.ev_d,tT,hi,q1',zr9];by_cases hg:limit<w
   ·simp only [hg,decide_true,cond_true];exact ⟨_,rfl,.inl rfl⟩
   ·simp only [hg,decide_false,cond_false];rw [zL (by omega)]
    obtain ⟨r,h3,h4⟩:=zbbG limit hl l hll hw n (i+1) (by omega) (by omega)
    refine ⟨r,h3, ?_⟩;rcases h4 with h4 | ⟨h4,h5⟩
    ·exact .inl h4
    ·refine .inr ⟨h4,λa ha=> ?_⟩
     rw [zby hi] at ha;rcases qd.1 ha with rfl | ha
     ·exact ⟨(q3 (by omega)).1,by have:=(q3 (by omega)).2; omega⟩
     ·exact h5 a ha
  ·simp only [Wy.ev_i,Wy.ev_k,Wy.ev_h,Wy.ev_bn,Wy.ev_d,tT,hi];exact ⟨_,rfl,.inr ⟨rfl,λa ha=>by rw [zc3 hi] at ha; cases ha⟩⟩
theorem zbkq (limit:Nat) (hl:limit<=1000) (l:yA) (hll:l.length<=1000) (hw:∀ a∈l,zgX a/\a.length<=zbl):∃ b,zC5 limit l=(true,b)/\(b=true->∀ a∈l,zo 12 a/\ze0 a<=limit):=by
 unfold zC5 z3E;obtain ⟨r,h1,h2⟩:=zbbG limit hl l hll hw (limit+l.length+Int.toNat 0+1) 0 (by omega) (by omega)
 rw [show ((0:Nat):Int)=(0:Int) from rfl] at h1
 rw [Wy.fin_bn];simp only [Int.toNat_natCast,h1,cond_true];rcases h2 with rfl | ⟨rfl,h2⟩
 ·exact ⟨false,rfl,λh=>by cases h⟩
 ·exact ⟨true,rfl,λ_ a ha=>h2 a (by simpa using ha)⟩
mutual
def zfO:At->Nat
 | ⟨_,_,a,_,i,_,_⟩=>zfN a+zdy i
def zbM:yD->Nat
 | []=>0
 | ⟨x,_⟩::r=>zfO x+zbM r
def zP:yC->Nat
 | []=>0
 | ⟨_,fs⟩::r=>1+fs.length+zbM fs+zP r
def zfN:yA->Nat
 | []=>0
 | a::r=>zP a+zfN r
def zdy:yE->Nat
 | []=>0
 | ⟨_,a⟩::r=>1+zP a+zdy r
end
theorem zhW (x:At):zfO x=zfN x.Ag+zdy x.Items:=by cases x; rw [zfO]
theorem zdo (f:Fc) (r:yD):zbM (f::r)=zfO f.At+zbM r:=by cases f; rw [zbM]
theorem zeS (t:Term) (r:yC):zP (t::r)=1+t.Fs.length+zbM t.Fs+zP r:=by cases t; rw [zP]
theorem zfm (a:yC) (r:yA):zfN (a::r)=zP a+zfN r:=by rw [zfN]
theorem zi2 (w:Wd) (r:yE):zdy (w::r)=1+zP w.Ann+zdy r:=by cases w; rw [zdy]
theorem zhn:zfN []=0:=by rw [zfN]
theorem zgk:zdy []=0:=by rw [zdy]
theorem zjq:zbM []=0:=by rw [zbM]
theorem zuw:zP []=0:=by rw [zP]
theorem z7O (l:yA):∀ n:Nat,l.foldl (λs t=>s+zP t) n=n+zfN l:=by
 induction l with
 | nil=>intro n; rw [zhn]; rfl
 | cons a r ih=>intro n; rw [List.foldl_cons,ih,zfm]; omega
theorem z3J (l:yE):∀ n:Nat,l.foldl (λs t=>s+1+zP t.Ann) n=n+zdy l:=by
 induction l with
 | nil=>intro n; rw [zgk]; rfl
 | cons a r ih=>intro n; rw [List.foldl_cons,ih,zi2]; omega
theorem zbap (l:yD):∀ n:Nat,l.foldl (λs t=>s+zfO t.At) n=n+zbM l:=by
 induction l with
 | nil=>intro n; rw [zjq]; rfl
 | cons a r ih=>intro n; rw [List.foldl_cons,ih,zdo]; omega
theorem z9Y (l:yC):∀ n:Nat,l.foldl (λs t=>s+1+t.Fs.length+zbM t.Fs) n=n+zP l:=by
 induction l with
 | nil=>intro n; rw [zuw]; rfl
 | cons a r ih=>intro n; rw [List.foldl_cons,ih,zeS]; omega
theorem zpC {n m:Nat} (h:n+m<=4611686018427387904):IntKind.i64.wrap ((n:Int)+(m:Int))=((n+m:Nat):Int):=by
 rw [z1V (by omega) (by omega)]; omega
theorem zhq {i:Nat} (h:i<4611686018427387904):IntKind.i64.wrap ((i:Int)+1)=((i+1:Nat):Int):=zL h
section
variable (g:yC->Bool×Int)
theorem zbjm (l:yA) (hl:l.length<=1000000) (hg:∀ y∈l,g y=(true,(zP y:Int))) (t12:yC) (t13 t14:Int) (t25:yD) (t26 t27:Int) (f:Fc) (fuel n:Nat) (hf:l.length<fuel) (hn:n+zfN l<=4611686018427387904):
  zF6 g fuel n t12 t13 t14 t25 t26 t27 l l.length 0 f=(true,(((n+zfN l:Nat):Int),t12,t13,t14,t25,t26,t27,f)):=by
 have h:=zdh (W:=zwD g) (z:=default) (l:=l) (λi (n:Nat)=>((n:Int),(),t12,t13,t14,t25,t26,t27,l,(l.length:Int),(i:Int),())) (λ_ _=>(f,())) (λy n=>.inl (n+zP y)) (λn=>((n:Int),t12,t13,t14,t25,t26,t27,f)) (λi n=>n+zfN (l.drop i)<=4611686018427387904)
  (λi n hi hI=>.inl ⟨_,rfl,by rw [zby hi,zfm] at hI; omega,λH K D=>by
   rw [zby hi,zfm] at hI;show (zlf g n t12 t13 t14 t25 t26 t27 l l.length i f).ev H K D=_;unfold zlf;simp only [Wy.ev_i,Wy.ev_k,Wy.ev_h,Wy.ev_bn,Wy.ev_d,tT,hi,hg _ (zp hi)];rw [zpC (by omega),zhq (by omega)]⟩)
  (λn hI H K D=>by
   show (zlf g n t12 t13 t14 t25 t26 t27 l l.length l.length f).ev H K D=_;unfold zlf;simp only [Wy.ev_i,Wy.ev_k,tT,Nat.lt_irrefl]) fuel 0 n (by omega) (Nat.zero_le _) (by simpa using hn)
 rw [List.drop_zero,zdi,z7O] at h;exact h
theorem zbj4 (l:yE) (hl:l.length<=1000000) (hg:∀ y∈l,g y.Ann=(true,(zP y.Ann:Int))) (t12:yC) (t13 t14:Int) (t25:yD) (t26 t27:Int) (fuel n:Nat) (hf:l.length<fuel) (hn:n+zdy l<=4611686018427387904):
  zGm g fuel n t12 t13 t14 t25 t26 t27 l l.length 0=(true,(((n+zdy l:Nat):Int),t12,t13,t14,t25,t26,t27)):=by
 have h:=zdh (W:=zxH g) (z:=default) (l:=l) (λi (n:Nat)=>((n:Int),t12,t13,t14,t25,t26,t27,l,(l.length:Int),(i:Int),())) (λ_ _=>()) (λy n=>.inl (n+1+zP y.Ann)) (λn=>((n:Int),t12,t13,t14,t25,t26,t27)) (λi n=>n+zdy (l.drop i)<=4611686018427387904)
  (λi n hi hI=>.inl ⟨_,rfl,by rw [zby hi,zi2] at hI; omega,λH K D=>by
   rw [zby hi,zi2] at hI;show (zk6 g n t12 t13 t14 t25 t26 t27 l l.length i).ev H K D=_;unfold zk6;simp only [Wy.ev_i,Wy.ev_k,Wy.ev_h,Wy.ev_bn,Wy.ev_d,tT,hi,hg _ (zp hi)];rw [zhq (by omega),show (1:Int)=((1:Nat):Int) from rfl,zpC (by omega),zpC (by omega), <- Nat.add_assoc]⟩)
  (λn hI H K D=>by
   show (zk6 g n t12 t13 t14 t25 t26 t27 l l.length l.length).ev H K D=_;unfold zk6;simp only [Wy.ev_i,Wy.ev_k,tT,Nat.lt_irrefl]) fuel 0 n (by omega) (Nat.zero_le _) (by simpa using hn)
 rw [List.drop_zero,zdi,z3J] at h;exact h
theorem zbkz (l:yD) (hl:l.length<=1000000) (hg:∀ f∈l,(f.At.Ag.length<=1000000/\f.At.Items.length<=1000000)/\(∀ y∈f.At.Ag,g y=(true,(zP y:Int)))/\∀ y∈f.At.Items,g y.Ann=(true,(zP y.Ann:Int))) (t12:yC) (t13 t14:Int) (fuel n:Nat) (hf:l.length<fuel) (hn:n+zbM l<=4611686018427387904):
  zGy g fuel n t12 t13 t14 l l.length 0=(true,(((n+zbM l:Nat):Int),t12,t13,t14)):=by
 have h:=zdh (W:=zzz g) (z:=default) (l:=l) (λi (n:Nat)=>((n:Int),t12,t13,t14,l,(l.length:Int),(i:Int),())) (λ_ _=>()) (λy n=>.inl (n+zfO y.At)) (λn=>((n:Int),t12,t13,t14)) (λi n=>n+zbM (l.drop i)<=4611686018427387904)
  (λi n hi hI=>.inl ⟨_,rfl,by rw [zby hi,zdo] at hI; omega,λH K D=>by
   rw [zby hi,zdo,zhW] at hI;obtain ⟨⟨h1,h2⟩,h3,h4⟩:=hg _ (zp hi);show (zmv g n t12 t13 t14 l l.length i).ev H K D=_;unfold zmv;simp only [Wy.ev_i,Wy.ev_k,Wy.ev_h,Wy.ev_bn,Wy.ev_d,tT,hi,At.eta];rw [zbjm g _ h1 h3 _ _ _ _ _ _ _ _ _ (by omega) (by omega)]
   simp only [cond_true,Int.toNat_natCast];rw [zbj4 g _ h2 h4 _ _ _ _ _ _ _ _ (by omega) (by omega)]
   simp only [cond_true];rw [zhq (by omega),zhW,Nat.add_assoc]⟩)
  (λn hI H K D=>by
   show (zmv g n t12 t13 t14 l l.length l.length).ev H K D=_;unfold zmv;simp only [Wy.ev_i,Wy.ev_k,tT,Nat.lt_irrefl]) fuel 0 n (by omega) (Nat.zero_le _) (by simpa using hn)
 rw [List.drop_zero,zdi,zbap] at h;exact h
theorem zbk3 (l:yC) (hl:l.length<=1000000) (hg:∀ t∈l,t.Fs.length<=1000000/\∀ f∈t.Fs,(f.At.Ag.length<=1000000/\f.At.Items.length<=1000000)/\(∀ y∈f.At.Ag,g y=(true,(zP y:Int)))/\∀ y∈f.At.Items,g y.Ann=(true,(zP y.Ann:Int))) (fuel n:Nat) (hf:l.length<fuel) (hn:n+zP l<=4611686018427387904):
  zHm g fuel n l l.length 0=(true,((n+zP l:Nat):Int)):=by
 have h:=zdh (W:=zy8 g) (z:=default) (l:=l) (λi (n:Nat)=>((n:Int),l,(l.length:Int),(i:Int),())) (λ_ _=>()) (λy n=>.inl (n+1+y.Fs.length+zbM y.Fs)) (λn=>(n:Int)) (λi n=>n+zP (l.drop i)<=4611686018427387904)
  (λi n hi hI=>.inl ⟨_,rfl,by rw [zby hi,zeS] at hI; omega,λH K D=>by
   rw [zby hi,zeS] at hI;obtain ⟨h1,h3⟩:=hg _ (zp hi);show (zmk g n l l.length i).ev H K D=_;unfold zmk;simp only [Wy.ev_i,Wy.ev_k,Wy.ev_h,Wy.ev_bn,Wy.ev_d,tT,hi,At.eta];rw [show (1:Int)=((1:Nat):Int) from rfl,zpC (n:=1) (by omega),zpC (by omega)]
   rw [zbkz g _ h1 h3 _ _ _ _ _ (by omega) (by omega)]
   simp only [cond_true];rw [show ((1:Nat):Int)=(1:Int) from rfl,zhq (by omega),Nat.add_assoc n 1]⟩)
  (λn hI H K D=>by
   show (zmk g n l l.length l.length).ev H K D=_;unfold zmk;simp only [Wy.ev_i,Wy.ev_k,tT,Nat.lt_irrefl]) fuel 0 n (by omega) (Nat.zero_le _) (by simpa using hn)
 rw [List.drop_zero,zdi,z9Y] at h;exact h
theorem zbhL (x:At) (hl:x.Ag.length<=1000000) (hg:∀ y∈x.Ag,g y=(true,(zP y:Int))) (a:yC) (i k:Int) (fuel n:Nat) (hf:x.Ag.length<fuel) (hn:n+zfN x.Ag<=4611686018427387904):
  zP4 g fuel a n i k 0 x=(true,(a,((n+zfN x.Ag:Nat):Int),i,k,x)):=by
 have h:=zdh (W:=zFf g) (z:=default) (l:=x.Ag) (λj (n:Nat)=>(a,(n:Int),i,k,(),(j:Int),())) (λ_ _=>(x,())) (λy n=>.inl (n+zP y)) (λn=>(a,(n:Int),i,k,x)) (λi n=>n+zfN (x.Ag.drop i)<=4611686018427387904)
  (λj n hi hI=>.inl ⟨_,rfl,by rw [zby hi,zfm] at hI; omega,λH K D=>by
   rw [zby hi,zfm] at hI;show (zsc g a n i k j x).ev H K D=_;unfold zsc;simp only [Wy.ev_i,Wy.ev_k,Wy.ev_h,Wy.ev_bn,Wy.ev_d,tT,hi,hg _ (zp hi)];rw [zpC (by omega),zhq (by omega)]⟩)
  (λn hI H K D=>by
   show (zsc g a n i k x.Ag.length x).ev H K D=_;unfold zsc;simp only [Wy.ev_i,Wy.ev_k,tT,Nat.lt_irrefl]) fuel 0 n (by omega) (Nat.zero_le _) (by simpa using hn)
 rw [List.drop_zero,zdi,z7O] at h;exact h
theorem zbhz (x:At) (hl:x.Items.length<=1000000) (hg:∀ y∈x.Items,g y.Ann=(true,(zP y.Ann:Int))) (a:yC) (i k:Int) (fuel n:Nat) (hf:x.Items.length<fuel) (hn:n+zdy x.Items<=4611686018427387904):
  zPF g fuel a n i k 0 x=(true,(a,((n+zdy x.Items:Nat):Int),i,k)):=by
 have h:=zdh (W:=zFw g) (z:=default) (l:=x.Items) (λj (n:Nat)=>(a,(n:Int),i,k,(),(j:Int),())) (λ_ _=>(x,())) (λy n=>.inl (n+1+zP y.Ann)) (λn=>(a,(n:Int),i,k)) (λi n=>n+zdy (x.Items.drop i)<=4611686018427387904)
  (λj n hi hI=>.inl ⟨_,rfl,by rw [zby hi,zi2] at hI; omega,λH K D=>by
   rw [zby hi,zi2] at hI;show (zsg g a n i k j x).ev H K D=_;unfold zsg;simp only [Wy.ev_i,Wy.ev_k,Wy.ev_h,Wy.ev_bn,Wy.ev_d,tT,hi,hg _ (zp hi)];rw [zhq (i:=j) (by omega),zhq (i:=n) (by omega),zpC (by omega)]⟩)
  (λn hI H K D=>by
   show (zsg g a n i k x.Items.length x).ev H K D=_;unfold zsg;simp only [Wy.ev_i,Wy.ev_k,tT,Nat.lt_irrefl]) fuel 0 n (by omega) (Nat.zero_le _) (by simpa using hn)
 rw [List.drop_zero,zdi,z3J] at h;exact h
theorem zP5:∀ (a:yC) (i:Nat),i<a.length->(a.getD i default).Fs.length<=zb6 a
 | [],i,h=>by simp at h
 | t::r,0,h=>by
  have:∀ l:yD,l.length<=zLq l:=λl=>by
   induction l with
   | nil=>exact Nat.le_refl _
   | cons f r ih=>simp only [zLq,qf]; omega
  have:=this t.Fs;simp only [zb6,List.getD_cons_zero]; omega
 | t::r,i+1,h=>by
  have:=zP5 r i (by simpa using h)
  simp only [zb6,List.getD_cons_succ]; omega
theorem foldl_factors' (l:yD):∀ n:Nat,l.foldl (λs t=>s+1+zfO t.At) n=n+l.length+zbM l:=by
 induction l with
 | nil=>intro n; rw [zjq]; rfl
 | cons a r ih=>intro n; rw [List.foldl_cons,ih,zdo,qf]; omega
theorem zbjN (a:yC) (i:Nat) (hi:i<a.length) (hla:a.length<=1000000) (l:yD) (el:(a.getD i default).Fs=l) (hl:l.length<=1000000) (hg:∀ f∈l,(f.At.Ag.length<=1000000/\f.At.Items.length<=1000000)/\(∀ y∈f.At.Ag,g y=(true,(zP y:Int)))/\∀ y∈f.At.Items,g y.Ann=(true,(zP y.Ann:Int))) (fuel n:Nat) (hf:l.length<fuel) (hn:n+l.length+zbM l<=4611686018427387904):
  zRr g fuel a n i 0=(true,(a,((n+l.length+zbM l:Nat):Int),(i:Int))):=by
 have h:=zdh (W:=zG4 g) (z:=default) (l:=l) (λk (n:Nat)=>(a,(n:Int),(i:Int),(k:Int),())) (λ_ _=>()) (λy n=>.inl (n+1+zfO y.At)) (λn=>(a,(n:Int),(i:Int))) (λk n=>n+(l.drop k).length+zbM (l.drop k)<=4611686018427387904)
  (λk n hk hI=>.inl ⟨_,rfl,by rw [zby hk,zdo,qf] at hI; omega,λH K D=>by
   rw [zby hk,zdo,zhW,qf] at hI;obtain ⟨⟨h1,h2⟩,h3,h4⟩:=hg _ (zp hk);show (zuX g a n i k).ev H K D=_;unfold zuX;simp only [Wy.ev_i,Wy.ev_k,Wy.ev_h,Wy.ev_bn,Wy.ev_d,tT,hi,el,hk,At.eta];rw [zhq (i:=n) (by omega)]
   rw [zbhL g _ h1 h3 _ _ _ _ _ (by omega) (by omega)]
   simp only [cond_true,Int.toNat_natCast,At.eta];rw [zbhz g _ h2 h4 _ _ _ _ _ (by omega) (by omega)]
   simp only [cond_true];rw [zhq (by omega),zhW,Nat.add_assoc (n+1)]⟩)
  (λn hI H K D=>by
   show (zuX g a n i l.length).ev H K D=_;unfold zuX;simp only [Wy.ev_i,Wy.ev_k,tT,hi,el,Nat.lt_irrefl]) fuel 0 n (by omega) (Nat.zero_le _) (by simpa using hn)
 rw [List.drop_zero,zdi,foldl_factors'] at h;exact h
theorem zbi8 (l:yC) (hl:l.length<=1000000) (hg:∀ t∈l,t.Fs.length<=1000000/\∀ f∈t.Fs,(f.At.Ag.length<=1000000/\f.At.Items.length<=1000000)/\(∀ y∈f.At.Ag,g y=(true,(zP y:Int)))/\∀ y∈f.At.Items,g y.Ann=(true,(zP y.Ann:Int))) (fuel n:Nat) (hf:l.length<fuel) (hn:n+zP l<=4611686018427387904):
  zQ4 g fuel l n 0=(true,((n+zP l:Nat):Int)):=by
 have h:=zdh (W:=zHr g) (z:=default) (l:=l) (λi (n:Nat)=>(l,(n:Int),(i:Int),())) (λ_ _=>()) (λy n=>.inl (n+1+y.Fs.length+zbM y.Fs)) (λn=>(n:Int)) (λi n=>n+zP (l.drop i)<=4611686018427387904)
  (λi n hi hI=>.inl ⟨_,rfl,by rw [zby hi,zeS] at hI; omega,λH K D=>by
   rw [zby hi,zeS] at hI;obtain ⟨h1,h3⟩:=hg _ (zp hi);have hz:=zP5 l i hi;show (zvd g l n i).ev H K D=_;unfold zvd;simp only [Wy.ev_i,Wy.ev_k,Wy.ev_h,Wy.ev_bn,Wy.ev_d,tT,hi,At.eta];rw [zhq (i:=n) (by omega)]
   rw [zbjN g l i hi hl _ rfl h1 h3 _ _ (by omega) (by omega)]
   simp only [cond_true];rw [zhq (by omega)]⟩)
  (λn hI H K D=>by
   show (zvd g l n l.length).ev H K D=_;unfold zvd;simp only [Wy.ev_i,Wy.ev_k,tT,Nat.lt_irrefl]) fuel 0 n (by omega) (Nat.zero_le _) (by simpa using hn)
 rw [List.drop_zero,zdi,z9Y] at h;exact h
end
theorem zbdK {l:yA} {y:yC} (h:y∈l):zP y<=zfN l:=by
 induction l with
 | nil=>cases h
 | cons a r ih=>
  rw [zfm];rcases qd.1 h with rfl | h
  ·omega
  ·have:=ih h; omega
theorem zbb9 {l:yE} {y:Wd} (h:y∈l):zP y.Ann<=zdy l:=by
 induction l with
 | nil=>cases h
 | cons a r ih=>
  rw [zi2];rcases qd.1 h with rfl | h
  ·omega
  ·have:=ih h; omega
theorem zTU {l:yD} {y:Fc} (h:y∈l):zfO y.At<=zbM l:=by
 induction l with
 | nil=>cases h
 | cons a r ih=>
  rw [zdo];rcases qd.1 h with rfl | h
  ·omega
  ·have:=ih h; omega
theorem zbeK {l:yC} {y:Term} (h:y∈l):zbM y.Fs<=zP l:=by
 induction l with
 | nil=>cases h
 | cons a r ih=>
  rw [zeS];rcases qd.1 h with rfl | h
  ·omega
  ·have:=ih h; omega
theorem z78 {a:yC} {t:Term} {f:Fc} (ht:t∈a) (hf:f∈t.Fs):zfN f.At.Ag+zdy f.At.Items<=zP a:=by
 have h1:=zbeK ht; have h2:=zTU hf; rw [zhW] at h2; omega
theorem zS7 {d:Nat} {a:yC} (h:zo (d+1) a) {t:Term} (ht:t∈a):t.Fs.length<=1000000/\∀ f∈t.Fs,(f.At.Ag.length<=1000000/\f.At.Items.length<=1000000)/\(∀ y∈f.At.Ag,zo d y)/\∀ y∈f.At.Items,zo d y.Ann:=
 ⟨(h.2 t ht).1,λf hf=>have q:=(h.2 t ht).2 f hf; ⟨⟨q.1.1,q.1.2.1⟩,q.2.1,λy hy=>(q.2.2 y hy).2⟩⟩
theorem z5D:∀ (n d:Nat) (a:yC),zo d a->d<=n->zP a<=4611686018427387904->zmB n a=(true,(zP a:Int))/\zxK n a=(true,(zP a:Int))
 | n,0,a,h,hd,hs=>h.elim
 | 0,d+1,a,h,hd,hs=>by omega
 | n+1,d+1,a,h,hd,hs=>by
  have hg:=λy (hy:zo d y) (hs:zP y<=4611686018427387904)=>z5D n d y hy (by omega) hs
  have hsub:∀ t∈a,t.Fs.length<=1000000/\∀ f∈t.Fs,(f.At.Ag.length<=1000000/\f.At.Items.length<=1000000)/\(∀ y∈f.At.Ag,zo d y/\zP y<=4611686018427387904)/\∀ y∈f.At.Items,zo d y.Ann/\zP y.Ann<=4611686018427387904:=λt ht=>by
   obtain ⟨h1,h2⟩:=zS7 h ht;refine ⟨h1,λf hf=> ?_⟩
   obtain ⟨h3,h4,h5⟩:=h2 f hf;have h6:=z78 ht hf;exact ⟨h3,λy hy=>⟨h4 y hy,by have:=zbdK hy; omega⟩,λy hy=>⟨h5 y hy,by have:=zbb9 hy; omega⟩⟩
  constructor
  ·rw [zWO];unfold zws zIG
   have h1:=zbk3 (zmB n) a h.1 (λt ht=>⟨(hsub t ht).1,λf hf=>⟨((hsub t ht).2 f hf).1,λy hy=>(hg y (((hsub t ht).2 f hf).2.1 y hy).1 (((hsub t ht).2 f hf).2.1 y hy).2).1,λy hy=>(hg _ (((hsub t ht).2 f hf).2.2 y hy).1 (((hsub t ht).2 f hf).2.2 y hy).2).1⟩⟩)
    (Int.toNat 0+a.length+(Int.ofNat a.length).toNat +Int.toNat 0+1) 0 (by omega) (by omega)
   rw [show ((0:Nat):Int)=(0:Int) from rfl,Nat.zero_add] at h1
   rw [Wy.fin_bn,show Int.ofNat a.length=(a.length:Int) from rfl] at *
   rw [h1]; rfl
  ·rw [z7w];unfold zHn zTr
   have h1:=zbi8 (zxK n) a h.1 (λt ht=>⟨(hsub t ht).1,λf hf=>⟨((hsub t ht).2 f hf).1,λy hy=>(hg y (((hsub t ht).2 f hf).2.1 y hy).1 (((hsub t ht).2 f hf).2.1 y hy).2).2,λy hy=>(hg _ (((hsub t ht).2 f hf).2.2 y hy).1 (((hsub t ht).2 f hf).2.2 y hy).2).2⟩⟩)
    (a.length+Int.toNat 0+Int.toNat 0+1+zb6 a) 0 (by omega) (by omega)
   rw [show ((0:Nat):Int)=(0:Int) from rfl,Nat.zero_add] at h1
   rw [Wy.fin_bn,h1]; rfl
mutual
def zpa:At->Nat
 | ⟨k,_,a,_,i,_,_⟩=>if k=0 then 0 else 1+max (znE a) (zl7 i)
def zdH:yD->Nat
 | []=>0
 | ⟨x,_⟩::r=>max (zpa x) (zdH r)
def zbt:yC->Nat
 | []=>0
 | ⟨_,fs⟩::r=>max (zdH fs) (zbt r)
def znE:yA->Nat
 | []=>0
 | a::r=>max (zbt a) (znE r)
def zl7:yE->Nat
 | []=>0
 | ⟨_,a⟩::r=>max (zbt a) (zl7 r)
end
theorem zHf (x:At):zpa x=if x.Kind=0 then 0 else 1+max (znE x.Ag) (zl7 x.Items):=by cases x; rw [zpa]
theorem zj9 (f:Fc) (r:yD):zdH (f::r)=max (zpa f.At) (zdH r):=by cases f; rw [zdH]
theorem zof (t:Term) (r:yC):zbt (t::r)=max (zdH t.Fs) (zbt r):=by cases t; rw [zbt]
theorem zGS (a:yC) (r:yA):znE (a::r)=max (zbt a) (znE r):=by rw [znE]
theorem zE4 (w:Wd) (r:yE):zl7 (w::r)=max (zbt w.Ann) (zl7 r):=by cases w; rw [zl7]
theorem zSo:znE []=0:=by rw [znE]
theorem zN5:zl7 []=0:=by rw [zl7]
theorem zru:zdH []=0:=by rw [zdH]
theorem zHF:zbt []=0:=by rw [zbt]
theorem zbfU (l:yA):∀ n:Nat,l.foldl (λs t=>max s (zbt t)) n=max n (znE l):=by
 induction l with
 | nil=>intro n; rw [zSo]; exact (Nat.max_zero n).symm
 | cons a r ih=>intro n; rw [List.foldl_cons,ih,zGS]; omega
theorem zbdp (l:yE):∀ n:Nat,l.foldl (λs t=>max s (zbt t.Ann)) n=max n (zl7 l):=by
 induction l with
 | nil=>intro n; rw [zN5]; exact (Nat.max_zero n).symm
 | cons a r ih=>intro n; rw [List.foldl_cons,ih,zE4]; omega
theorem zbdN (l:yA):∀ n:Nat,l.foldl (λs t=>max s (1+zbt t)) (1+n)=1+max n (znE l):=by
 induction l with
 | nil=>intro n; rw [zSo]; simp
 | cons a r ih=>intro n; rw [List.foldl_cons,show max (1+n) (1+zbt a)=1+max n (zbt a) by omega,ih,zGS]; omega
theorem zbc9 (l:yE):∀ n:Nat,l.foldl (λs t=>max s (1+zbt t.Ann)) (1+n)=1+max n (zl7 l):=by
 induction l with
 | nil=>intro n; rw [zN5]; simp
 | cons a r ih=>intro n; rw [List.foldl_cons,show max (1+n) (1+zbt a.Ann)=1+max n (zbt a.Ann) by omega,ih,zE4]; omega
theorem zXk (l:yD):∀ n:Nat,l.foldl (λs t=>max s (zpa t.At)) n=max n (zdH l):=by
 induction l with
 | nil=>intro n; rw [zru]; exact (Nat.max_zero n).symm
 | cons a r ih=>intro n; rw [List.foldl_cons,ih,zj9]; omega
theorem z9M (l:yC):∀ n:Nat,l.foldl (λs t=>max s (zdH t.Fs)) n=max n (zbt l):=by
 induction l with
 | nil=>intro n; rw [zHF]; exact (Nat.max_zero n).symm
 | cons a r ih=>intro n; rw [List.foldl_cons,ih,zof]; omega
theorem z1z (a b:Nat):(if (a:Int)>(b:Int) then (a:Int) else (b:Int))=((max b a:Nat):Int):=by split <;>omega
theorem z5Z {d:Nat}:∀ l:yA,(∀ y∈l,zbt y<=d)->znE l<=d:=λl=>by
 induction l with
 | nil=>intro _; rw [zSo]; omega
 | cons y r ih=>intro hy; rw [zGS]; have h1:=hy y (by simp); have h2:=ih λz hz=>hy z (by simp [hz]); omega
theorem z3C {d:Nat}:∀ l:yE,(∀ y∈l,zbt y.Ann<=d)->zl7 l<=d:=λl=>by
 induction l with
 | nil=>intro _; rw [zN5]; omega
 | cons y r ih=>intro hy; rw [zE4]; have h1:=hy y (by simp); have h2:=ih λz hz=>hy z (by simp [hz]); omega
theorem zbaN {d:Nat}:∀ l:yD,(∀ y∈l,zpa y.At<=d)->zdH l<=d:=λl=>by
 induction l with
 | nil=>intro _; rw [zru]; omega
 | cons y r ih=>intro hy; rw [zj9]; have h1:=hy y (by simp); have h2:=ih λz hz=>hy z (by simp [hz]); omega
theorem zbgm {d:Nat}:∀ l:yC,(∀ y∈l,zdH y.Fs<=d)->zbt l<=d:=λl=>by
 induction l with
 | nil=>intro _; rw [zHF]; omega
 | cons y r ih=>intro hy; rw [zof]; have h1:=hy y (by simp); have h2:=ih λz hz=>hy z (by simp [hz]); omega
theorem zWn:∀ (d:Nat) (a:yC),zo d a->zbt a<=d
 | 0,a,h=>h.elim
 | d+1,a,h=>zbgm a λt ht=>zbaN _ λf hf=>by
  obtain ⟨_,h2⟩:=zS7 h ht;obtain ⟨_,h4,h5⟩:=h2 f hf;have q1:=z5Z f.At.Ag λy hy=>zWn d y (h4 y hy)
  have q2:=z3C f.At.Items λy hy=>zWn d y.Ann (h5 y hy)
  rw [zHf]; split <;>omega
section
variable (g:yC->Bool×Int)
theorem zbkE (l:yA) (hl:l.length<=1000000) (hg:∀ y∈l,g y=(true,(zbt y:Int))) (nn:Int) (t13:yC) (t14 t15:Int) (t20:yD) (t21 t22:Int) (f:Fc) (fuel n:Nat) (hf:l.length<fuel):
  zC4 g fuel nn n t13 t14 t15 t20 t21 t22 l l.length 0 f=(true,(nn,((max n (znE l):Nat):Int),t13,t14,t15,t20,t21,t22,f)):=by
 have h:=zdh (W:=zrX g) (z:=default) (l:=l) (λi (n:Nat)=>(nn,(),(n:Int),t13,t14,t15,t20,t21,t22,l,(l.length:Int),(i:Int),())) (λ_ _=>(f,())) (λy n=>.inl (max n (zbt y))) (λn=>(nn,(n:Int),t13,t14,t15,t20,t21,t22,f)) (λi n=>True)
  (λi n hi hI=>.inl ⟨_,rfl,trivial,λH K D=>by
   show (ziT g nn n t13 t14 t15 t20 t21 t22 l l.length i f).ev H K D=_;unfold ziT;simp only [Wy.ev_i,Wy.ev_k,Wy.ev_h,Wy.ev_bn,Wy.ev_d,tT,hi,hg _ (zp hi),z1z];rw [zhq (by omega)]⟩)
  (λn hI H K D=>by
   show (ziT g nn n t13 t14 t15 t20 t21 t22 l l.length l.length f).ev H K D=_;unfold ziT;simp only [Wy.ev_i,Wy.ev_k,tT,Nat.lt_irrefl]) fuel 0 n (by omega) (Nat.zero_le _) trivial
 rw [List.drop_zero,zdi,zbfU] at h;exact h
theorem zbkD (l:yE) (hl:l.length<=1000000) (hg:∀ y∈l,g y.Ann=(true,(zbt y.Ann:Int))) (nn:Int) (t13:yC) (t14 t15:Int) (t20:yD) (t21 t22:Int) (fuel n:Nat) (hf:l.length<fuel):
  zCH g fuel nn n t13 t14 t15 t20 t21 t22 l l.length 0=(true,(nn,((max n (zl7 l):Nat):Int),t13,t14,t15,t20,t21,t22)):=by
 have h:=zdh (W:=zr1 g) (z:=default) (l:=l) (λi (n:Nat)=>(nn,(n:Int),t13,t14,t15,t20,t21,t22,l,(l.length:Int),(i:Int),())) (λ_ _=>()) (λy n=>.inl (max n (zbt y.Ann))) (λn=>(nn,(n:Int),t13,t14,t15,t20,t21,t22)) (λi n=>True)
  (λi n hi hI=>.inl ⟨_,rfl,trivial,λH K D=>by
   show (ziZ g nn n t13 t14 t15 t20 t21 t22 l l.length i).ev H K D=_;unfold ziZ;simp only [Wy.ev_i,Wy.ev_k,Wy.ev_h,Wy.ev_bn,Wy.ev_d,tT,hi,hg _ (zp hi),z1z];rw [zhq (by omega)]⟩)
  (λn hI H K D=>by
   show (ziZ g nn n t13 t14 t15 t20 t21 t22 l l.length l.length).ev H K D=_;unfold ziZ;simp only [Wy.ev_i,Wy.ev_k,tT,Nat.lt_irrefl]) fuel 0 n (by omega) (Nat.zero_le _) trivial
 rw [List.drop_zero,zdi,zbdp] at h;exact h
def zVQ (x:At):Prop:=(x.Ag.length<=1000000/\x.Items.length<=1000000)/\(zpa x<=1000/\(∀ y∈x.Ag,zbt y<=1000)/\∀ y∈x.Items,zbt y.Ann<=1000)/\(∀ y∈x.Ag,g y=(true,(zbt y:Int)))/\∀ y∈x.Items,g y.Ann=(true,(zbt y.Ann:Int))
theorem zblU (l:yD) (hl:l.length<=1000000) (hg:∀ f∈l,zVQ g f.At) (t13:yC) (t14 t15:Int) (fuel n:Nat) (hf:l.length<fuel):
  zDR g fuel n t13 t14 t15 l l.length 0=(true,(((max n (zdH l):Nat):Int),t13,t14,t15)):=by
 have h:=zdh (W:=ztz g) (z:=default) (l:=l) (λi (n:Nat)=>((n:Int),t13,t14,t15,l,(l.length:Int),(i:Int),())) (λ_ _=>()) (λy n=>.inl (max n (zpa y.At))) (λn=>((n:Int),t13,t14,t15)) (λi n=>True)
  (λi n hi hI=>.inl ⟨_,rfl,trivial,λH K D=>by
   obtain ⟨⟨h1,h2⟩,⟨h5,_,_⟩,h3,h4⟩:=hg _ (zp hi);show (zjT g n t13 t14 t15 l l.length i).ev H K D=_;unfold zjT;simp only [Wy.ev_i,Wy.ev_k,Wy.ev_h,Wy.ev_bn,Wy.ev_d,tT,hi,At.eta];generalize l.getD i default=f at *;rw [zHf] at h5 ⊢;by_cases hk:f.At.Kind=0
   ·have e:(f.At.Kind==0)=true:=by simp [hk]
    simp only [e,cond_true];rw [if_pos hk,Nat.max_zero,zhq (by omega)]
   ·have e:(f.At.Kind==0)=false:=by simp [hk]
    simp only [e,cond_false];rw [if_neg hk] at h5 ⊢;have q:=λfuel hf=>zbkE g _ h1 h3 n t13 t14 t15 l l.length i f fuel 0 hf
    rw [Nat.zero_max,show ((0:Nat):Int)=(0:Int) from rfl] at q
    rw [q _ (by omega)]
    simp only [cond_true,Int.toNat_natCast];rw [zbkD g _ h2 h4 n t13 t14 t15 l l.length i _ _ (by omega)]
    simp only [cond_true];rw [zhq (by omega),show (1:Int)=((1:Nat):Int) from rfl,zpC (n:=1) (by omega),z1z]⟩)
  (λn hI H K D=>by
   show (zjT g n t13 t14 t15 l l.length l.length).ev H K D=_;unfold zjT;simp only [Wy.ev_i,Wy.ev_k,tT,Nat.lt_irrefl]) fuel 0 n (by omega) (Nat.zero_le _) trivial
 rw [List.drop_zero,zdi,zXk] at h;exact h
theorem zblH (l:yC) (hl:l.length<=1000000) (hg:∀ t∈l,t.Fs.length<=1000000/\∀ f∈t.Fs,zVQ g f.At) (fuel n:Nat) (hf:l.length<fuel):
  zD0 g fuel n l l.length 0=(true,((max n (zbt l):Nat):Int)):=by
 have h:=zdh (W:=ztK g) (z:=default) (l:=l) (λi (n:Nat)=>((n:Int),l,(l.length:Int),(i:Int),())) (λ_ _=>()) (λy n=>.inl (max n (zdH y.Fs))) (λn=>(n:Int)) (λi n=>True)
  (λi n hi hI=>.inl ⟨_,rfl,trivial,λH K D=>by
   obtain ⟨h1,h3⟩:=hg _ (zp hi);show (zjP g n l l.length i).ev H K D=_;unfold zjP;simp only [Wy.ev_i,Wy.ev_k,Wy.ev_h,Wy.ev_bn,Wy.ev_d,tT,hi,At.eta];rw [zblU g _ h1 h3 _ _ _ _ _ (by omega)]
   simp only [cond_true];rw [zhq (by omega)]⟩)
  (λn hI H K D=>by
   show (zjP g n l l.length l.length).ev H K D=_;unfold zjP;simp only [Wy.ev_i,Wy.ev_k,tT,Nat.lt_irrefl]) fuel 0 n (by omega) (Nat.zero_le _) trivial
 rw [List.drop_zero,zdi,z9M] at h;exact h
theorem zbjh (x:At) (hx:zVQ g x) (a:yC) (most i k:Int) (fuel n:Nat) (hf:x.Ag.length<fuel):
  zAZ g fuel a most i k ((1+n:Nat):Int) 0 x=(true,(a,most,i,k,((1+max n (znE x.Ag):Nat):Int),x)):=by
 obtain ⟨⟨h1,h2⟩,⟨h5,h6,h7⟩,h3,h4⟩:=hx
 have h:=zdh (W:=zAP g) (z:=default) (l:=x.Ag) (λj (n:Nat)=>(a,most,i,k,(),(n:Int),(j:Int),())) (λ_ _=>(x,())) (λy n=>.inl (max n (1+zbt y))) (λn=>(a,most,i,k,(n:Int),x)) (λi n=>True)
  (λj n hi hI=>.inl ⟨_,rfl,trivial,λH K D=>by
   have h8:=h6 _ (zp hi);show (znw g a most i k n j x).ev H K D=_;unfold znw;simp only [Wy.ev_i,Wy.ev_k,Wy.ev_h,Wy.ev_bn,Wy.ev_d,tT,hi,h3 _ (zp hi)];rw [zhq (by omega),show (1:Int)=((1:Nat):Int) from rfl,zpC (n:=1) (by omega),z1z]⟩)
  (λn hI H K D=>by
   show (znw g a most i k n x.Ag.length x).ev H K D=_;unfold znw;simp only [Wy.ev_i,Wy.ev_k,tT,Nat.lt_irrefl]) fuel 0 (1+n) (by omega) (Nat.zero_le _) trivial
 rw [List.drop_zero,zdi,zbdN] at h;exact h
theorem zbjQ (x:At) (hx:zVQ g x) (a:yC) (most i k:Int) (fuel n:Nat) (hf:x.Items.length<fuel):
  zIF g fuel a most i k ((1+n:Nat):Int) 0 x=(true,(a,most,i,k,((1+max n (zl7 x.Items):Nat):Int))):=by
 obtain ⟨⟨h1,h2⟩,⟨h5,h6,h7⟩,h3,h4⟩:=hx
 have h:=zdh (W:=zAS g) (z:=default) (l:=x.Items) (λj (n:Nat)=>(a,most,i,k,(),(n:Int),(j:Int),())) (λ_ _=>(x,())) (λy n=>.inl (max n (1+zbt y.Ann))) (λn=>(a,most,i,k,(n:Int))) (λi n=>True)
  (λj n hi hI=>.inl ⟨_,rfl,trivial,λH K D=>by
   have h8:=h7 _ (zp hi);show (zno g a most i k n j x).ev H K D=_;unfold zno;simp only [Wy.ev_i,Wy.ev_k,Wy.ev_h,Wy.ev_bn,Wy.ev_d,tT,hi,h4 _ (zp hi)];rw [zhq (by omega),show (1:Int)=((1:Nat):Int) from rfl,zpC (n:=1) (by omega),z1z]⟩)
  (λn hI H K D=>by
   show (zno g a most i k n x.Items.length x).ev H K D=_;unfold zno;simp only [Wy.ev_i,Wy.ev_k,tT,Nat.lt_irrefl]) fuel 0 (1+n) (by omega) (Nat.zero_le _) trivial
 rw [List.drop_zero,zdi,zbc9] at h;exact h
theorem RNes_12' (x:At) (hx:zVQ g x) (a:yC) (most i k:Int) (fuel:Nat) (hf:x.Ag.length<fuel):zAZ g fuel a most i k 1 0 x=(true,(a,most,i,k,((1+znE x.Ag:Nat):Int),x)):=by
 have h:=zbjh g x hx a most i k fuel 0 hf;rw [Nat.zero_max] at h; exact h
theorem zbkC (a:yC) (i:Nat) (hi:i<a.length) (hla:a.length<=1000000) (l:yD) (el:(a.getD i default).Fs=l) (hl:l.length<=1000000) (hg:∀ f∈l,zVQ g f.At) (fuel n:Nat) (hf:l.length<fuel):
  zKB g fuel a n i 0=(true,(a,((max n (zdH l):Nat):Int),(i:Int))):=by
 have h:=zdh (W:=zCR g) (z:=default) (l:=l) (λk (n:Nat)=>(a,(n:Int),(i:Int),(k:Int),())) (λ_ _=>()) (λy n=>.inl (max n (zpa y.At))) (λn=>(a,(n:Int),(i:Int))) (λk n=>True)
  (λk n hk hI=>.inl ⟨_,rfl,trivial,λH K D=>by
   have hx:=hg _ (zp hk);have h5:=hx.2.1.1;show (zoz g a n i k).ev H K D=_;unfold zoz;simp only [Wy.ev_i,Wy.ev_k,Wy.ev_h,Wy.ev_bn,Wy.ev_d,tT,hi,el,hk,At.eta];generalize l.getD k default=f at *;rw [zHf] at h5 ⊢;by_cases hz:f.At.Kind=0
   ·have e:(f.At.Kind==0)=true:=by simp [hz]
    simp only [e,cond_true];rw [if_pos hz,Nat.max_zero,zhq (by omega)]
   ·have e:(f.At.Kind==0)=false:=by simp [hz]
    have hx1:=hx.1;simp only [e,cond_false];rw [if_neg hz] at h5 ⊢;rw [RNes_12' g _ hx _ _ _ _ _ (by omega)]
    simp only [cond_true,Int.toNat_natCast,At.eta];rw [zbjQ g _ hx _ _ _ _ _ _ (by omega)]
    simp only [cond_true];rw [zhq (by omega),z1z]⟩)
  (λn hI H K D=>by
   show (zoz g a n i l.length).ev H K D=_;unfold zoz;simp only [Wy.ev_i,Wy.ev_k,tT,hi,el,Nat.lt_irrefl]) fuel 0 n (by omega) (Nat.zero_le _) trivial
 rw [List.drop_zero,zdi,zXk] at h;exact h
theorem zblc (l:yC) (hl:l.length<=1000000) (hg:∀ t∈l,t.Fs.length<=1000000/\∀ f∈t.Fs,zVQ g f.At) (fuel n:Nat) (hf:l.length<fuel):
  zKs g fuel l n 0=(true,((max n (zbt l):Nat):Int)):=by
 have h:=zdh (W:=zCO g) (z:=default) (l:=l) (λi (n:Nat)=>(l,(n:Int),(i:Int),())) (λ_ _=>()) (λy n=>.inl (max n (zdH y.Fs))) (λn=>(n:Int)) (λi n=>True)
  (λi n hi hI=>.inl ⟨_,rfl,trivial,λH K D=>by
   obtain ⟨h1,h3⟩:=hg _ (zp hi);have hz:=zP5 l i hi;show (zoh g l n i).ev H K D=_;unfold zoh;simp only [Wy.ev_i,Wy.ev_k,Wy.ev_h,Wy.ev_bn,Wy.ev_d,tT,hi,At.eta];rw [zbkC g l i hi hl _ rfl h1 h3 _ _ (by omega)]
   simp only [cond_true];rw [zhq (by omega)]⟩)
  (λn hI H K D=>by
   show (zoh g l n l.length).ev H K D=_;unfold zoh;simp only [Wy.ev_i,Wy.ev_k,tT,Nat.lt_irrefl]) fuel 0 n (by omega) (Nat.zero_le _) trivial
 rw [List.drop_zero,zdi,z9M] at h;exact h
end
theorem z8S:∀ (n d:Nat) (a:yC),zo d a->d<=n->d<=100->zg0 n a=(true,(zbt a:Int))/\zl5 n a=(true,(zbt a:Int))
 | n,0,a,h,hd,hs=>h.elim
 | 0,d+1,a,h,hd,hs=>by omega
 | n+1,d+1,a,h,hd,hs=>by
  have hg:=λy (hy:zo d y)=>z8S n d y hy (by omega) (by omega)
  have hsub:∀ t∈a,t.Fs.length<=1000000/\∀ f∈t.Fs,zVQ (zg0 n) f.At/\zVQ (zl5 n) f.At:=λt ht=>by
   obtain ⟨h1,h2⟩:=zS7 h ht;refine ⟨h1,λf hf=> ?_⟩
   obtain ⟨h3,h4,h5⟩:=h2 f hf;have q1:∀ y∈f.At.Ag,zbt y<=d:=λy hy=>zWn d y (h4 y hy)
   have q2:∀ y∈f.At.Items,zbt y.Ann<=d:=λy hy=>zWn d y.Ann (h5 y hy)
   have q3:zpa f.At<=1000:=by
    have r1:=z5Z _ q1; have r2:=z3C _ q2;rw [zHf]; split <;>omega
   have q4:zpa f.At<=1000/\(∀ y∈f.At.Ag,zbt y<=1000)/\∀ y∈f.At.Items,zbt y.Ann<=1000:=⟨q3,λy hy=>by have:=q1 y hy; omega,λy hy=>by have:=q2 y hy; omega⟩
   exact ⟨⟨h3,q4,λy hy=>(hg y (h4 y hy)).1,λy hy=>(hg _ (h5 y hy)).1⟩,⟨h3,q4,λy hy=>(hg y (h4 y hy)).2,λy hy=>(hg _ (h5 y hy)).2⟩⟩
  constructor
  ·rw [zQt];unfold zqQ zEX;have h1:=zblH (zg0 n) a h.1 (λt ht=>⟨(hsub t ht).1,λf hf=>((hsub t ht).2 f hf).1⟩) (Int.toNat 0+a.length+(Int.ofNat a.length).toNat +Int.toNat 0+1) 0 (by omega)
   rw [show ((0:Nat):Int)=(0:Int) from rfl,Nat.zero_max] at h1
   rw [Wy.fin_bn,show Int.ofNat a.length=(a.length:Int) from rfl] at *
   rw [h1]; rfl
  ·rw [zY7];unfold zBx zME;have h1:=zblc (zl5 n) a h.1 (λt ht=>⟨(hsub t ht).1,λf hf=>((hsub t ht).2 f hf).2⟩) (a.length+Int.toNat 0+Int.toNat 0+1+zb6 a) 0 (by omega)
   rw [show ((0:Nat):Int)=(0:Int) from rfl,Nat.zero_max] at h1
   rw [Wy.fin_bn,h1]; rfl
theorem zC1 (x y:Int):zep x y=(true,zeD x y):=by
 unfold zep zMU zue zRz zeD;by_cases h1:x<y
 ·simp [h1,Wy.fin_i,Wy.fin_k]
 ·by_cases h2:y<x <;>simp [h1,h2,Wy.fin_i,Wy.fin_k]
theorem zzv (x y:Int):zjZ x y=(true,zeD x y):=by
 unfold zjZ zIy zpq zMz zeD;by_cases h1:x<y
 ·simp [h1,Wy.fin_i,Wy.fin_k]
 ·by_cases h2:y<x <;>simp [h1,h2,Wy.fin_i,Wy.fin_k]
def zxh:List Int->Int
 | []=>0
 | x::r=>if x=0 then zxh r else x
theorem zbd3 (l:List Int) (hl:l.length<=1000000):∀ (n i:Nat),l.length<i+n->i<=l.length->∃ r,zLL n 0 l l.length i=(true,r)/\(r=.inl (zxh (l.drop i))\/(r=.inr 0/\zxh (l.drop i)=0))
 | 0,i,h,h2=>by omega
 | n+1,i,h,h2=>by
  show ∃ r,(zLO 0 l l.length i).ev (λx y=>zLL n x.1 x.2.1 x.2.2.1 x.2.2.2.1) (λr=>(true,r)) (false,.inl default)=(true,r)/\_
  unfold zLO;by_cases hi:i<l.length
  ·simp only [Wy.ev_i,Wy.ev_k,Wy.ev_h,Int.ofNat_eq_natCast,zEQ,zfP,decide_true,decide_false,Bool.and_self,Bool.true_and,Bool.and_true,cond_true,cond_false,Int.toNat_natCast,Bool.not_true,Bool.not_false,hi];obtain ⟨r,h1,h3⟩:=zbd3 l hl n (i+1) (by omega) (by omega)
   rw [zby hi,zL (by omega),h1]
   generalize l.getD i default=x;by_cases hx:x=0
   ·have e:(x != 0)=false:=by simp [hx]
    simp only [e,cond_false,zxh,hx,if_true];exact ⟨r,rfl,h3⟩
   ·have e:(x != 0)=true:=by simp [hx]
    simp only [e,cond_true,zxh,hx,if_false];exact ⟨_,rfl,.inl rfl⟩
  ·simp only [Wy.ev_i,Wy.ev_k,Wy.ev_h,Int.ofNat_eq_natCast,zEQ,zfP,decide_true,decide_false,Bool.and_self,Bool.true_and,Bool.and_true,cond_true,cond_false,Int.toNat_natCast,Bool.not_true,Bool.not_false,hi,zc3 hi];exact ⟨_,rfl,.inr ⟨rfl,rfl⟩⟩
theorem zz9 (l:List Int) (hl:l.length<=1000000):zn2 l=(true,zxh l):=by
 unfold zn2 zYK;obtain ⟨r,h1,h2⟩:=zbd3 l hl (Int.toNat 0+l.length+(Int.ofNat l.length).toNat +Int.toNat 0+1) 0 (by simp; omega) (by omega)
 rw [show ((0:Nat):Int)=(0:Int) from rfl] at h1
 rw [Wy.fin_bn,show Int.ofNat l.length=(l.length:Int) from rfl] at *
 rw [h1];rw [List.drop_zero] at h2;rcases h2 with rfl | ⟨rfl,h2⟩
 ·rfl
 ·rw [h2]; rfl
section
variable {α:Type}
def zAF (c:α->α->Int):List α->List α->Int
 | [],[]=>0
 | [],_::_=> -1
 | _::_,[]=>1
 | x::a,y::b=>if c x y=0 then zAF c a b else c x y
theorem zRd (e:α->TT) {c:α->α->Int}:∀ (a b:List α),(∀ x∈a,∀ y∈b,c x y=zbf (e x) (e y))->zAF c a b=zbO (a.map e) (b.map e)
 | [],[],_=>by simp only [zAF,List.map,zbO]
 | [],_::_,_=>by simp only [zAF,List.map,zbO]
 | _::_,[],_=>by simp only [zAF,List.map,zbO]
 | x::a,y::b,h=>by
  simp only [zAF,List.map,zbO];rw [h x (by simp) y (by simp),zRd e a b λx hx y hy=>h x (by simp [hx]) y (by simp [hy])]
variable [Inhabited α]
def zbbg (g:α->α->Bool×Int) (s1:List α) (s2:List α) (t11:List α) (t12:Int) (t13:Int):Wy (List α×List α×Unit×List α×Int×Int×Unit) Unit (Int⊕(List α×List α)):=.i (decide (t13<t12)) (.i (decide ((0:Int)<=t13)&&decide (t13<Int.ofNat t11.length)) (.i (decide (t13≥Int.ofNat s2.length)) (.k (.inl (1:Int))) (.i (decide ((0:Int)<=t13)&&decide (t13<Int.ofNat s2.length)) (.bn (g (t11.getD t13.toNat default) (s2.getD t13.toNat default)) λr0=>.i (r0 != (0:Int)) (.k (.inl (r0))) (.h (s1,s2,(),t11,t12,(IntKind.i64.wrap (t13+(1:Int))),()) ())) .d)) .d) (.k (.inr (s1,s2)))
def zbfL (g:α->α->Bool×Int) (x:List α×List α×Unit×List α×Int×Int×Unit) (y:Unit):Wy (List α×List α×Unit×List α×Int×Int×Unit) Unit (Int⊕(List α×List α)):=zbbg g x.1 x.2.1 x.2.2.2.1 x.2.2.2.2.1 x.2.2.2.2.2.1
def zbfw (g:α->α->Bool×Int) (n:Nat) (s1:List α) (s2:List α) (t11:List α) (t12:Int) (t13:Int):Bool×(Int⊕(List α×List α)):=zC (zbfL g) (.inl default) n (s1,s2,(),t11,t12,t13,()) ()
def CF (g:α->α->Bool×Int) (s1 s2:List α):Bool×Int:=(.bn (zbfw g (s1.length+s2.length+s1.length+(Int.ofNat s1.length).toNat +Int.toNat (0:Int)+(1:Nat)) s1 s2 s1 (Int.ofNat s1.length) (0:Int)) λr2=>.i (isL r2) (.k (getL r2)) (.i (decide (Int.ofNat (getR r2).fst.length<Int.ofNat (getR r2).snd.length)) (.k (-1:Int)) (.k (0:Int))):Wy0 Int).fin default
theorem zbdV (g:α->α->Bool×Int) (c:α->α->Int) (a b:List α) (ha:a.length<=1000000) (hg:∀ x∈a,∀ y∈b,g x y=(true,c x y)):∀ (n i:Nat),a.length<i+n->i<=a.length->i<=b.length->
  ∃ r,zbfw g n a b a a.length i=(true,r)/\((r=.inl (zAF c (a.drop i) (b.drop i)))\/(r=.inr (a,b)/\zAF c (a.drop i) (b.drop i)=if a.length<b.length then -1 else 0))
 | 0,i,h,h2,h3=>by omega
 | n+1,i,h,h2,h3=>by
  show ∃ r,(zbbg g a b a a.length i).ev (λx y=>zbfw g n x.1 x.2.1 x.2.2.2.1 x.2.2.2.2.1 x.2.2.2.2.2.1) (λr=>(true,r)) (false,.inl default)=(true,r)/\_
  unfold zbbg;by_cases hi:i<a.length
  ·by_cases hi':i<b.length
   ·have hg':¬ b.length<=i:=by omega
    simp only [Wy.ev_i,Wy.ev_k,Wy.ev_h,Wy.ev_bn,Wy.ev_d,Int.ofNat_eq_natCast,zEQ,zfP,decide_true,decide_false,Bool.and_self,Bool.true_and,Bool.and_true,cond_true,cond_false,Int.toNat_natCast,Bool.not_true,Bool.not_false,hi,hi',zbf8,hg',hg _ (zp hi) _ (zp hi')];rw [zby hi,zby hi',zL (by omega)]
    simp only [zAF];generalize c (a.getD i default) (b.getD i default)=z;by_cases hx:z=0
    ·have e:(z != 0)=false:=by simp [hx]
     simp only [e,cond_false,hx,if_true];exact zbdV g c a b ha hg n (i+1) (by omega) (by omega) (by omega)
    ·have e:(z != 0)=true:=by simp [hx]
     simp only [e,cond_true,hx,if_false];exact ⟨_,rfl,.inl rfl⟩
   ·have hg':b.length<=i:=by omega
    simp only [Wy.ev_i,Wy.ev_k,Wy.ev_h,Wy.ev_bn,Wy.ev_d,Int.ofNat_eq_natCast,zEQ,zfP,decide_true,decide_false,Bool.and_self,Bool.true_and,Bool.and_true,cond_true,cond_false,Int.toNat_natCast,Bool.not_true,Bool.not_false,hi,zbf8,hg'];refine ⟨_,rfl,.inl ?_⟩;rw [zby hi,zc3 hi']; rfl
  ·simp only [Wy.ev_i,Wy.ev_k,Wy.ev_h,Wy.ev_bn,Wy.ev_d,Int.ofNat_eq_natCast,zEQ,zfP,decide_true,decide_false,Bool.and_self,Bool.true_and,Bool.and_true,cond_true,cond_false,Int.toNat_natCast,Bool.not_true,Bool.not_false,hi];refine ⟨_,rfl,.inr ⟨rfl, ?_⟩⟩;rw [zc3 hi];by_cases hi':i<b.length
   ·rw [zby hi',if_pos (by omega)]; rfl
   ·rw [zc3 hi',if_neg (by omega)]; rfl
theorem zblE (g:α->α->Bool×Int) (c:α->α->Int) (a b:List α) (ha:a.length<=1000000) (hg:∀ x∈a,∀ y∈b,g x y=(true,c x y)):CF g a b=(true,zAF c a b):=by
 unfold CF;obtain ⟨r,h1,h2⟩:=zbdV g c a b ha hg (a.length+b.length+a.length+(Int.ofNat a.length).toNat +Int.toNat 0+1) 0 (by simp; omega) (by omega) (by omega)
 rw [show ((0:Nat):Int)=(0:Int) from rfl] at h1
 rw [Wy.fin_bn,show Int.ofNat a.length=(a.length:Int) from rfl] at *
 rw [h1];simp only [List.drop_zero] at h2;rcases h2 with rfl | ⟨rfl,h2⟩
 ·rfl
 ·rw [h2];simp only [Wy.fin_i,Wy.fin_k,Int.ofNat_eq_natCast,zEQ,zfP,decide_true,decide_false,Bool.and_self,Bool.true_and,Bool.and_true,cond_true,cond_false,Int.toNat_natCast,Bool.not_true,Bool.not_false,isL,getR];by_cases h3:a.length<b.length <;>simp [h3]
end
theorem z1W {α:Type} [Inhabited α] (e:α->TT) (g:α->α->Bool×Int) (a b:List α) (ha:a.length<=1000000) (hg:∀ x∈a,∀ y∈b,g x y=(true,zbf (e x) (e y))):CF g a b=(true,zbO (a.map e) (b.map e)):=by
 rw [zblE g (λx y=>zbf (e x) (e y)) a b ha hg,zRd e a b λ_ _ _ _=>rfl]
theorem Fc.eta2 (x:Fc):(FO.mk (At.mk x.At.Kind x.At.Row x.At.Ag x.At.Func x.At.Items x.At.Op x.At.Bd) x.Exp:Fc)=x:=by rw [At.eta]
theorem zbhQ (g):zbU g=CF g:=rfl
theorem zbfS (g):zbB g=CF g:=by
 have h:zbT g=zbfL g:=by
  funext x y
  unfold zbT zes zbfL zbbg;rw [Fc.eta2,Fc.eta2]
 funext a b
 unfold zbB zeG zet;rw [h]; rfl
theorem zbi0 (g):zbu g=CF g:=rfl
theorem zbhT (g):zbK g=CF g:=rfl
theorem zOK (a b:Value):zuk a b=(true,zbf (trV a) (trV b)):=by
 unfold zuk zRx;have h:(strings_Compare a.Text b.Text).2=zbf (trB a.Text) (trB b.Text):=by rw [<- zbeC]; rfl
 simp only [zC1,zzv,Wy.fin_bn,cond_true,h];rw [zz9 _ (by simp)]
 simp only [Wy.fin_k,cond_true,trV,zbf,zbO,zxh];rfl
theorem zUU:∀ n,
  (∀ d a b,zo d a->10*d<=n->zg3 n a b=(true,zbO (zdO a) (zdO b)))/\
  (∀ d a b,zo d a->10*d<=n+1->zbW n a b=(true,zbO (zdO a) (zdO b)))/\
  (∀ d x y,zcs (zo d) x.Fs->10*d+10<=n+2->zjS n x y=(true,zbf (zC3 x) (zC3 y)))/\
  (∀ d x y,zcs (zo d) x.Fs->10*d+10<=n+3->zhT n x y=(true,zbO (zbE x.Fs) (zbE y.Fs)))/\
  (∀ d l l',zcs (zo d) l->10*d+10<=n+4->zb4 n l l'=(true,zbO (zbE l) (zbE l')))/\
  (∀ d x y,zdd (zo d) x.At->10*d+10<=n+5->zgH n x y=(true,zbf (ziy x) (ziy y)))/\
  (∀ d x y,zdd (zo d) x->10*d+10<=n+6->zh6 n x y=(true,zbf (zdw x) (zdw y)))/\
  (∀ d a b,a.length<=1000000->(∀ x∈a,zo d x)->10*d+10<=n+7->zbw n a b=(true,zbO (zz5 a) (zz5 b)))/\
  (∀ d a b,a.length<=1000000->(∀ x∈a,zo d x.Ann)->10*d+10<=n+7->zbL n a b=(true,zbO (zim a) (zim b)))/\
  (∀ d x y,zo d x.Ann->10*d+10<=n+8->zfK n x y=(true,zbf (z8 x) (z8 y)))
 | 0=>by
  refine ⟨?_, ?_, ?_, ?_, ?_, ?_, ?_, ?_, ?_, ?_⟩
  ·intro d a b h hd; have:d=0:=by omega
   subst this; exact h.elim
  ·intro d a b h hd; have:d=0:=by omega
   subst this; exact h.elim
  all_goals (intros; omega)
 | n+1=>by
  obtain ⟨h1,h2,h3,h4,h5,h6,h7,h8,h9,h10⟩:=zUU n;refine ⟨?_, ?_, ?_, ?_, ?_, ?_, ?_, ?_, ?_, ?_⟩
  ·intro d a b h hd;rw [zQD];unfold zqm zE0;rw [Wy.fin_bn,h2 d a b h (by omega)]; rfl
  ·intro d a b h hd;cases d with
   | zero=>exact h.elim
   | succ d=>
    rw [zi5,zbhQ,zKJ,zKJ];exact z1W zC3 _ a b h.1 λx hx y hy=>h3 d x y (h.2 x hx) (by omega)
  ·intro d x y h hd;rw [zL6];unfold zm3 zA3;rw [Wy.fin_bn,h4 d x y h (by omega)]
   simp only [cond_true,Wy.fin_bn,zzv];rw [zz9 _ (by simp)]
   obtain ⟨c,l⟩:=x; obtain ⟨c',l'⟩:=y;simp only [cond_true,Wy.fin_k,zxh,zC3,zbf,zbO];rfl
  ·intro d x y h hd;rw [zJD];unfold zlm zyr;rw [Wy.fin_bn,h5 d _ _ h (by omega)]; rfl
  ·intro d l l' h hd;rw [zjF,zbfS,zAi,zAi];exact z1W ziy _ l l' h.1 λx hx y hy=>h6 d x y (h.2 x hx) (by omega)
  ·intro d x y h hd;rw [zHs];unfold zkh zv4;rw [At.eta,At.eta,Wy.fin_bn,h7 d _ _ h (by omega)]
   simp only [cond_true,Wy.fin_bn,zC1];rw [zz9 _ (by simp)]
   obtain ⟨c,l⟩:=x; obtain ⟨c',l'⟩:=y;simp only [cond_true,Wy.fin_k,zxh,ziy,zbf,zbO];rfl
  ·intro d x y h hd;rw [zJc];unfold zls zyw;simp only [cond_true,Wy.fin_bn,zC1,zOK,h8 d x.Ag y.Ag h.1.1 h.2.1 (by omega),h9 d x.Items y.Items h.1.2.1 (λw hw=>(h.2.2 w hw).2) (by omega)]
   rw [zz9 _ (by simp)]
   obtain ⟨k,r,a,f,i,o,v⟩:=x; obtain ⟨k',r',a',f',i',o',v'⟩:=y;simp only [cond_true,Wy.fin_k,zxh,zdw,zbf,zbO];rfl
  ·intro d a b h0 h hd;rw [zf4,zbi0,zGQ,zGQ];exact z1W (λx=>TT.l (zdO x)) _ a b h0 λx hx y hy=>by rw [h1 d x y (h x hx) (by omega)]; simp only [zbf]
  ·intro d a b h0 h hd;rw [zhx,zbhT,znU,znU];exact z1W z8 _ a b h0 λx hx y hy=>h10 d x y (h x hx) (by omega)
  ·intro d x y h hd;rw [zI7];unfold zlv zys;simp only [cond_true,Wy.fin_bn,zOK,h1 d _ _ h (by omega)]
   rw [zz9 _ (by simp)]
   obtain ⟨c,l⟩:=x; obtain ⟨c',l'⟩:=y;simp only [cond_true,Wy.fin_k,zxh,z8,zbf,zbO];rfl
theorem zTA {d:Nat} {a:yC} (h:zo d a) (hd:d<=100) (b:yC):zDd a b=(true,zbO (zdO a) (zdO b)):=(zUU 1000).1 d a b h (by omega)
theorem zz1 {d:Nat} {x:Term} (h:zcs (zo d) x.Fs) (hd:d<=99) (y:Term):zb9 x y=(true,zbO (zbE x.Fs) (zbE y.Fs)):=(zUU 1000).2.2.2.1 d x y h (by omega)
theorem zz3 {d:Nat} {x:At} (h:zdd (zo d) x) (hd:d<=99) (y:At):zjO x y=(true,zbf (zdw x) (zdw y)):=(zUU 1000).2.2.2.2.2.2.1 d x y h (by omega)
theorem zcU {d:Nat} {x:Wd} (h:zo d x.Ann) (hd:d<=99) (y:Wd):zbP x y=(true,zbf (z8 x) (z8 y)):=(zUU 1000).2.2.2.2.2.2.2.2.2 d x y h (by omega)
theorem zsO {d:Nat} {a:yC} (h:zo d a) (hd:d<=100) (b:yC):zgY a b=(true,decide (a=b)):=by
 unfold zgY zKa;rw [Wy.fin_bn,zTA h hd];simp only [cond_true,Wy.fin_k];congr 1;by_cases e:a=b
 ·subst e; rw [z0x]; simp
 ·have:zbO (zdO a) (zdO b)≠0:=λh=>e (zJ7 _ _ (zN0 _ _ h))
  simp [e,this]
theorem z3B (s:ByteArray):∀ (n i:Nat) (r:List UInt8),s.size<=i+n->ByteArray.toList.loop s i r=r.reverse++s.data.toList.drop i
 | 0,i,r,h=>by
  rw [ByteArray.toList.loop,if_neg (by omega),List.drop_eq_nil_of_le (by rw [<- Lib.size_eq]; omega),List.append_nil]
 | n+1,i,r,h=>by
  rw [ByteArray.toList.loop];by_cases hi:i<s.size
  ·have hi':i<s.data.toList.length:=by rw [<- Lib.size_eq]; exact hi
   rw [if_pos hi,z3B s n (i+1) _ (by omega),List.drop_eq_getElem_cons hi',List.reverse_cons,List.append_assoc]
   congr 1
   have:s.get! i=s.data.toList[i]:=by
    have h':i<s.data.size:=hi;show s.data[i]! =s.data.toList[i];rw [getElem!_pos s.data i h']; rfl
   rw [this]; rfl
  ·rw [if_neg hi,List.drop_eq_nil_of_le (by rw [<- Lib.size_eq]; omega),List.append_nil]
theorem toList_eq (s:ByteArray):s.toList=s.data.toList:=by
 rw [ByteArray.toList,z3B s s.size 0 [] (by omega)]; rfl
theorem zK6 {s t:ByteArray} (h:s.data.toList=t.data.toList):s=t:=by
 cases s; cases t;congr 1;exact Array.toList_inj.1 h
theorem zbeJ (s t:ByteArray):(s.toList==t.toList)=decide (s.data.toList=t.data.toList):=by
 rw [toList_eq,toList_eq];cases hb:(s.data.toList==t.data.toList) with
 | true=>rw [decide_eq_true (beq_iff_eq.1 hb)]
 | false=>rw [decide_eq_false (λh=>by rw [beq_iff_eq.2 h] at hb; cases hb)]
theorem z1k (s t:ByteArray):(s.toList==t.toList)=decide (s=t):=by
 rw [zbeJ];by_cases h:s=t
 ·rw [decide_eq_true h,decide_eq_true (by rw [h])]
 ·rw [decide_eq_false h,decide_eq_false λe=>h (zK6 e)]
theorem zAE (z w:Int):(z != w)= !decide (z=w):=by by_cases h:z=w <;>simp [h]
theorem zW5:∀ a b:List UInt8,Op.bytesLess a b=decide (Lib.compareBytes a b<0)
 | [],[]=>by simp [Op.bytesLess,Lib.compareBytes]
 | _::_,[]=>by simp [Op.bytesLess,Lib.compareBytes]
 | [],_::_=>by simp [Op.bytesLess,Lib.compareBytes]
 | x::a,y::b=>by
  simp only [Op.bytesLess,Lib.compareBytes];by_cases p:x<y
  ·simp [p]
  ·by_cases q:y<x
   ·have hne:¬ x=y:=λe=>by subst e; exact p q
    simp [p,q,hne]
   ·have he:x=y:=UInt8.toNat_inj.1 (by rw [UInt8.lt_iff_toNat_lt] at p q; omega)
    subst he;simp [p,zW5 a b]
theorem zOU (a b:Value):zpL a b=(true,zbf (trV a) (trV b)):=by
 unfold zpL zRe zDB zZj;rw [z1k,toList_eq,toList_eq,zW5,zbeC];simp only [trV,zbf,zbO,zeD];simp only [Wy.fin_i,Wy.fin_bn,Wy.fin_k,cond_true,zAE];by_cases h1:a.Kind=b.Kind
 ·by_cases h2:a.Int=b.Int
  ·by_cases h3:a.Text=b.Text
   ·simp [h1,h2,h3,zFP]
   ·have h4:zbf (trB a.Text) (trB b.Text)≠0:=λe=>by
     have:=zLU _ _ (TT.l.inj (zuj _ _ e));exact h3 (zK6 this)
    have h5:=zbcq (trB a.Text) (trB b.Text);simp only [trB,zbf] at h4 h5;simp only [trB,zbf];rcases h5 with h5 | h5 | h5
    ·simp [h1,h2,h3,h5]
    ·exact absurd h5 h4
    ·simp [h1,h2,h3,h5]
  ·by_cases h3:a.Int<b.Int
   ·simp [h1,h2,h3]
   ·simp [h1,h2,h3,show b.Int<a.Int by omega]
 ·by_cases h3:a.Kind<b.Kind
  ·simp [h1,h3]
  ·simp [h1,h3,show b.Kind<a.Kind by omega]
theorem zpl (x y:Int):zc8 x y=(true,zeD x y):=by
 unfold zc8 zUM zeD;by_cases h1:x<y
 ·simp [h1,Wy.fin_i,Wy.fin_k]
 ·by_cases h2:y<x <;>simp [h1,h2,Wy.fin_i,Wy.fin_k]
theorem zXB (x y:RowID):znN x y=(true,if zeD x.Table y.Table=0 then zeD x.Seq y.Seq else zeD x.Table y.Table):=by
 unfold znN zLi;simp only [zpl,Wy.fin_i,Wy.fin_bn,Wy.fin_k,cond_true,zAE];by_cases h:zeD x.Table y.Table=0
 ·simp [h]
 ·simp [h]
section
variable {α:Type} [Inhabited α]
def zbbh (p q:α->α->Bool×Int) (a:List α) (b:List α) (i:Int):Wy (List α×List α×Int×Unit) Unit (Int⊕(List α×List α)):=.i (decide (i<Int.ofNat a.length)) (.i (decide (i<Int.ofNat b.length)) (.i (decide ((0:Int)<=i)&&decide (i<Int.ofNat a.length)) (.i (decide ((0:Int)<=i)&&decide (i<Int.ofNat b.length)) (.bn (p (a.getD i.toNat default) (b.getD i.toNat default)) λr1=>.i (r1 != (0:Int)) (.k (.inl (r1))) (.i (decide ((0:Int)<=i)&&decide (i<Int.ofNat a.length)) (.i (decide ((0:Int)<=i)&&decide (i<Int.ofNat b.length)) (.bn (q (a.getD i.toNat default) (b.getD i.toNat default)) λr0=>.i (r0 != (0:Int)) (.k (.inl (r0))) (.h (a,b,(IntKind.i64.wrap (i+(1:Int))),()) ())) .d) .d)) .d) .d) (.k (.inr (a,b)))) (.k (.inr (a,b)))
def zbfB (p q:α->α->Bool×Int) (x:List α×List α×Int×Unit) (y:Unit):Wy (List α×List α×Int×Unit) Unit (Int⊕(List α×List α)):=zbbh p q x.1 x.2.1 x.2.2.1
def zbff (p q:α->α->Bool×Int) (n:Nat) (a:List α) (b:List α) (i:Int):Bool×(Int⊕(List α×List α)):=zC (zbfB p q) (.inl default) n (a,b,i,()) ()
def RG (p q:α->α->Bool×Int) (a b:List α):Bool×Int:=(.bn (zbff p q (a.length+b.length+Int.toNat (0:Int)+(1:Nat)) a b (0:Int)) λr5=>.i (isL r5) (.k (getL r5)) (.bn (zc8 (Int.ofNat (getR r5).fst.length) (Int.ofNat (getR r5).snd.length)) λr4=>.k r4):Wy0 Int).fin default
theorem zbez (p q:α->α->Bool×Int) (c1 c2:α->α->Int) (a b:List α) (ha:a.length<=1000000) (hp:∀ x∈a,∀ y∈b,p x y=(true,c1 x y)) (hq:∀ x∈a,∀ y∈b,q x y=(true,c2 x y)):∀ (n i:Nat),a.length<i+n->i<=a.length->i<=b.length->
  ∃ r,zbff p q n a b i=(true,r)/\((r=.inl (zAF (λx y=>if c1 x y=0 then c2 x y else c1 x y) (a.drop i) (b.drop i)))\/(r=.inr (a,b)/\zAF (λx y=>if c1 x y=0 then c2 x y else c1 x y) (a.drop i) (b.drop i)=zeD a.length b.length))
 | 0,i,h,h2,h3=>by omega
 | n+1,i,h,h2,h3=>by
  show ∃ r,(zbbh p q a b i).ev (λx y=>zbff p q n x.1 x.2.1 x.2.2.1) (λr=>(true,r)) (false,.inl default)=(true,r)/\_
  unfold zbbh;by_cases hi:i<a.length
  ·by_cases hi':i<b.length
   ·simp only [Wy.ev_i,Wy.ev_k,Wy.ev_h,Wy.ev_bn,Wy.ev_d,tT,hi,hi',hp _ (zp hi) _ (zp hi'),hq _ (zp hi) _ (zp hi')];rw [zby hi,zby hi',zL (by omega)]
    simp only [zAF];generalize c1 (a.getD i default) (b.getD i default)=z1;generalize c2 (a.getD i default) (b.getD i default)=z2;by_cases hx:z1=0
    ·have e:(z1 != 0)=false:=by simp [hx]
     by_cases hx2:z2=0
     ·have e2:(z2 != 0)=false:=by simp [hx2]
      simp only [e,e2,cond_false,hx,hx2,if_true];exact zbez p q c1 c2 a b ha hp hq n (i+1) (by omega) (by omega) (by omega)
     ·have e2:(z2 != 0)=true:=by simp [hx2]
      simp only [e,e2,cond_false,cond_true,hx,hx2,if_true,if_false];exact ⟨_,rfl,.inl rfl⟩
    ·have e:(z1 != 0)=true:=by simp [hx]
     simp only [e,cond_true,hx,if_false];exact ⟨_,rfl,.inl rfl⟩
   ·simp only [Wy.ev_i,Wy.ev_k,Wy.ev_h,Wy.ev_bn,Wy.ev_d,tT,hi,hi'];refine ⟨_,rfl,.inr ⟨rfl, ?_⟩⟩;rw [zby hi,zc3 hi'];unfold zeD; rw [if_neg (by omega),if_pos (by omega)]; rfl
  ·simp only [Wy.ev_i,Wy.ev_k,Wy.ev_h,Wy.ev_bn,Wy.ev_d,tT,hi];refine ⟨_,rfl,.inr ⟨rfl, ?_⟩⟩;rw [zc3 hi];by_cases hi':i<b.length
   ·rw [zby hi']; unfold zeD; rw [if_pos (by omega)]; rfl
   ·rw [zc3 hi']; unfold zeD; rw [if_neg (by omega),if_neg (by omega)]; rfl
theorem zblw (p q:α->α->Bool×Int) (c1 c2:α->α->Int) (a b:List α) (ha:a.length<=1000000) (hp:∀ x∈a,∀ y∈b,p x y=(true,c1 x y)) (hq:∀ x∈a,∀ y∈b,q x y=(true,c2 x y)):RG p q a b=(true,zAF (λx y=>if c1 x y=0 then c2 x y else c1 x y) a b):=by
 unfold RG;obtain ⟨r,h1,h2⟩:=zbez p q c1 c2 a b ha hp hq (a.length+b.length+Int.toNat 0+1) 0 (by simp; omega) (by omega) (by omega)
 rw [show ((0:Nat):Int)=(0:Int) from rfl] at h1
 rw [Wy.fin_bn,h1];simp only [List.drop_zero] at h2;rcases h2 with rfl | ⟨rfl,h2⟩
 ·rfl
 ·rw [h2];simp only [Wy.fin_i,Wy.fin_k,Wy.fin_bn,zpl,tT,isL,getR]
end
theorem z9u {α:Type} [Inhabited α] (e:α->TT) (p q:α->α->Bool×Int) (c1 c2:α->α->Int) (a b:List α) (ha:a.length<=1000000) (hp:∀ x∈a,∀ y∈b,p x y=(true,c1 x y)) (hq:∀ x∈a,∀ y∈b,q x y=(true,c2 x y))
  (hc:∀ x y,(if c1 x y=0 then c2 x y else c1 x y)=zbf (e x) (e y)):RG p q a b=(true,zbO (a.map e) (b.map e)):=by
 rw [zblw p q c1 c2 a b ha hp hq,zRd e a b λx _ y _=>hc x y]
theorem zbhf (g):zBe g=RG (λx y=>g x.Fs y.Fs) (λx y=>zc8 x.Cf y.Cf):=rfl
theorem zbeO (g):zkB g=RG (λx y=>g x.At y.At) (λx y=>zc8 x.Exp y.Exp):=by
 have h:zlo g=zbfB (λx y=>g x.At y.At) (λx y=>zc8 x.Exp y.Exp):=by
  funext x y
  unfold zlo zA8 zbfB zbbh;rw [At.eta,At.eta]
 funext a b
 unfold zkB zCS zA4;rw [h]; rfl
theorem zbhX (g):zqn g=RG (λx y=>zpL x.Value y.Value) (λx y=>g x.Ann y.Ann):=rfl
theorem z9A (gI) (g:yC->yC->Bool×Int) (a b:At) (ha:a.Ag.length<=1000000) (hg:∀ x∈a.Ag,∀ y∈b.Ag,g x y=(true,zbO (zdO x) (zdO y))):∀ (n i:Nat),a.Ag.length<i+n->i<=a.Ag.length->i<=b.Ag.length->
  ∃ r,zv0 g gI n i a b=(true,r)/\((r=.inl (zAF (λx y=>zbO (zdO x) (zdO y)) (a.Ag.drop i) (b.Ag.drop i))/\zAF (λx y=>zbO (zdO x) (zdO y)) (a.Ag.drop i) (b.Ag.drop i)≠0)\/(r=.inr (a,b)/\zAF (λx y=>zbO (zdO x) (zdO y)) (a.Ag.drop i) (b.Ag.drop i)=zeD a.Ag.length b.Ag.length))
 | 0,i,h,h2,h3=>by omega
 | n+1,i,h,h2,h3=>by
  show ∃ r,(zvY g gI i a b).ev (λx y=>zv0 g gI n x.2.2.1 y.1 y.2.1) (λr=>(true,r)) (false,.inl default)=(true,r)/\_
  unfold zvY;by_cases hi:i<a.Ag.length
  ·by_cases hi':i<b.Ag.length
   ·simp only [Wy.ev_i,Wy.ev_k,Wy.ev_h,Wy.ev_bn,Wy.ev_d,tT,hi,hi',hg _ (zp hi) _ (zp hi')];rw [zby hi,zby hi',zL (by omega)]
    simp only [zAF];generalize zbO (zdO (a.Ag.getD i default)) (zdO (b.Ag.getD i default))=z1;by_cases hx:z1=0
    ·have e:(z1 != 0)=false:=by simp [hx]
     simp only [e,cond_false,hx,if_true];exact z9A gI g a b ha hg n (i+1) (by omega) (by omega) (by omega)
    ·have e:(z1 != 0)=true:=by simp [hx]
     simp only [e,cond_true,hx,if_false];exact ⟨_,rfl,.inl ⟨rfl,hx⟩⟩
   ·simp only [Wy.ev_i,Wy.ev_k,Wy.ev_h,Wy.ev_bn,Wy.ev_d,tT,hi,hi'];refine ⟨_,rfl,.inr ⟨rfl, ?_⟩⟩;rw [zby hi,zc3 hi'];unfold zeD; rw [if_neg (by omega),if_pos (by omega)]; rfl
  ·simp only [Wy.ev_i,Wy.ev_k,Wy.ev_h,Wy.ev_bn,Wy.ev_d,tT,hi];refine ⟨_,rfl,.inr ⟨rfl, ?_⟩⟩;rw [zc3 hi];by_cases hi':i<b.Ag.length
   ·rw [zby hi']; unfold zeD; rw [if_pos (by omega)]; rfl
   ·rw [zc3 hi']; unfold zeD; rw [if_neg (by omega),if_neg (by omega)]; rfl
theorem zbj5 (gI) (g:yC->yC->Bool×Int) (x y:At) (ha:x.Ag.length<=1000000) (hg:∀ a∈x.Ag,∀ b∈y.Ag,g a b=(true,zbO (zdO a) (zdO b)))
  (hI:gI x.Items y.Items=(true,zbO (zim x.Items) (zim y.Items))):zns g gI x y=(true,zbf (zdw x) (zdw y)):=by
 unfold zns zF7;rw [At.eta,At.eta];obtain ⟨r,h1,h2⟩:=z9A gI g x y ha hg (Int.toNat 0+x.Ag.length+x.Items.length+y.Ag.length+y.Items.length+1) 0 (by omega) (by omega) (by omega)
 rw [show ((0:Nat):Int)=(0:Int) from rfl] at h1
 simp only [List.drop_zero] at h2;rw [zRd (λa=>TT.l (zdO a)) x.Ag y.Ag (λa _ b _=>by simp only [zbf]), <- zGQ, <- zGQ] at h2
 simp only [zpl,zXB,Wy.fin_bn,Wy.fin_i,Wy.fin_k,cond_true,h1];obtain ⟨k,r0,a,f,i,o,v⟩:=x; obtain ⟨k',r',a',f',i',o',v'⟩:=y;simp only [zdw,zbf,zbO,zAE] at *;by_cases e1:zeD k k'=0
 rotate_left
 ·simp [e1]
 by_cases e2:zeD r0.Table r'.Table=0
 rotate_left
 ·simp [e1,e2]
 by_cases e3:zeD r0.Seq r'.Seq=0
 rotate_left
 ·simp [e1,e2,e3]
 rcases h2 with ⟨rfl,h2⟩ | ⟨rfl,h2⟩
 ·simp [e1,e2,e3,h2,isL,getL]
 simp only [e1,e2,e3,h2,isL,getR,tT,hI,if_true];by_cases e4:zeD (a.length:Int) (a'.length:Int)=0
 rotate_left
 ·simp [e4]
 by_cases e5:zeD f f'=0
 rotate_left
 ·simp [e4,e5]
 by_cases e6:zbO (zim i) (zim i')=0
 rotate_left
 ·simp [e4,e5,e6]
 by_cases e7:zeD o o'=0
 rotate_left
 ·simp [e4,e5,e6,e7]
 simp [e4,e5,e6,e7,zOU]
theorem zOJ:∀ n,
  (∀ d a b,zo d a->10*d<=n->zo4 n a b=(true,zbO (zdO a) (zdO b)))/\
  (∀ d l l',zcs (zo d) l->10*d+10<=n+1->zku n l l'=(true,zbO (zbE l) (zbE l')))/\
  (∀ d x y,zdd (zo d) x->10*d+10<=n+2->znA n x y=(true,zbf (zdw x) (zdw y)))/\
  (∀ d a b,a.length<=1000000->(∀ x∈a,zo d x.Ann)->10*d+10<=n+3->zml n a b=(true,zbO (zim a) (zim b)))
 | 0=>by
  refine ⟨?_, ?_, ?_, ?_⟩
  ·intro d a b h hd; have:d=0:=by omega
   subst this; exact h.elim
  all_goals (intros; omega)
 | n+1=>by
  obtain ⟨h1,h2,h3,h4⟩:=zOJ n;refine ⟨?_, ?_, ?_, ?_⟩
  ·intro d a b h hd;cases d with
   | zero=>exact h.elim
   | succ d=>
    rw [zYY,zbhf,zKJ,zKJ]
    exact z9u zC3 _ _ (λx y=>zbO (zbE x.Fs) (zbE y.Fs)) (λx y=>zeD x.Cf y.Cf) a b h.1 (λx hx y hy=>h2 d _ _ (h.2 x hx) (by omega)) (λx _ y _=>zpl _ _) λx y=>by
     obtain ⟨c,l⟩:=x; obtain ⟨c',l'⟩:=y;simp only [zC3,zbf,zbO];by_cases e:zeD c c'=0 <;>simp [e]
  ·intro d l l' h hd;rw [zNo,zbeO,zAi,zAi]
   exact z9u ziy _ _ (λx y=>zbf (zdw x.At) (zdw y.At)) (λx y=>zeD x.Exp y.Exp) l l' h.1 (λx hx y hy=>h3 d _ _ (h.2 x hx) (by omega)) (λx _ y _=>zpl _ _) λx y=>by
    obtain ⟨c,l⟩:=x; obtain ⟨c',l'⟩:=y;simp only [ziy,zbf,zbO];by_cases e:zeD l l'=0 <;>simp [e]
  ·intro d x y h hd;rw [zRP];exact zbj5 _ _ x y h.1.1 (λa ha b _=>h1 d a b (h.2.1 a ha) (by omega)) (h4 d _ _ h.1.2.1 (λw hw=>(h.2.2 w hw).2) (by omega))
  ·intro d a b h0 h hd;rw [zQL,zbhX,znU,znU]
   exact z9u z8 _ _ (λx y=>zbf (trV x.Value) (trV y.Value)) (λx y=>zbO (zdO x.Ann) (zdO y.Ann)) a b h0 (λx _ y _=>zOU _ _) (λx hx y _=>h1 d _ _ (h x hx) (by omega)) λx y=>by
    obtain ⟨c,l⟩:=x; obtain ⟨c',l'⟩:=y;simp only [z8,zbf,zbO];by_cases e:zbO (zdO l) (zdO l')=0 <;>simp [e]
theorem z5z {d:Nat} {a:yC} (h:zo d a) (hd:d<=100) (b:yC):zMf a b=(true,zbO (zdO a) (zdO b)):=(zOJ 1000).1 d a b h (by omega)
theorem zt0 {d:Nat} {l:yD} (h:zcs (zo d) l) (hd:d<=99) (l':yD):zmq l l'=(true,zbO (zbE l) (zbE l')):=(zOJ 1000).2.1 d l l' h (by omega)
theorem zqp {d:Nat} {x:At} (h:zdd (zo d) x) (hd:d<=99) (y:At):zjV x y=(true,zbf (zdw x) (zdw y)):=(zOJ 1000).2.2.1 d x y h (by omega)
theorem zFS {d:Nat} {a:yE} (h0:a.length<=1000000) (h:∀ x∈a,zo d x.Ann) (hd:d<=99) (b:yE):zuy a b=(true,zbO (zim a) (zim b)):=(zOJ 1000).2.2.2 d a b h0 h (by omega)
theorem zAl {d:Nat} {a:yC} (h:zo d a) (hd:d<=100) (b:yC):zmu a b=(true,decide (a=b)):=by
 unfold zmu z0H;rw [Wy.fin_bn,z5z h hd];simp only [cond_true,Wy.fin_k];congr 1;by_cases e:a=b
 ·subst e; rw [z0x]; simp
 ·have:zbO (zdO a) (zdO b)≠0:=λh=>e (zJ7 _ _ (zN0 _ _ h))
  simp [e,this]
end Go.Proofs.YtljlfiomikifjaaGreatDoor
end
