/- Texts of this claim, joined (the program, its functions in plain words, and what they compute). -/
import Derived.Test.YtljlfiomikifjaaGreatDoorGC6
set_option autoImplicit false
set_option linter.unusedVariables false
set_option linter.unusedSectionVars false
set_option linter.unusedSimpArgs false
set_option maxRecDepth 1000000
set_option maxHeartbeats 0
noncomputable section
namespace Go.Proofs.YtljlfiomikifjaaGreatDoor
open Go Go.Ab
open Go.Proofs.Tryz
abbrev zjI:=yC×Unit×Int×Bool×Int×Unit
abbrev z6:=yC×Unit
abbrev zw0:=yC×Int×Bool×yC
abbrev zjt:=yC×Unit×Int×Int×Unit
abbrev zxm:=Bool⊕(yC×Int×yC)
abbrev zjw:=yC×Unit×Int×Unit
abbrev zwV:=Bool⊕(yC×yC)
def zmZ (a:yC) (i:Int) (from_:Bool) (k:Int) (x_:yC):Wy zjI z6 zw0:=.i (decide (k<Int.ofNat a.length)) (.i (from_) (.h (a,(),i,true,(IntKind.i64.wrap (k+1)),()) (x_,())) (.i (decide (0<=k)&&decide (k<Int.ofNat a.length)) (.i (decide (0<=i)&&decide (i<Int.ofNat x_.length)) (.bn (zjs (a.getD k.toNat default).Fs (x_.getD i.toNat default).Fs) λr0=>.h (a,(),i,(r0==0),(IntKind.i64.wrap (k+1)),()) (x_,())) .d) .d)) (.k (a,i,from_,x_))
def zwh (x:zjI) (y:z6):=zmZ x.1 x.2.2.1 x.2.2.2.1 x.2.2.2.2.1 y.1
def zm4 (n:Nat) (a:yC) (i:Int) (from_:Bool) (k:Int) (x_:yC):=zC (zwh) default n (a,(),i,from_,k,()) (x_,())
def zGw (r:zw0):LTree ty:=.done (.exit 2) [.sl 28 r.1,.own 384,.lit (.int .i64 r.2.1),.lit (.bool r.2.2.1)] [.arr 28 r.2.2.2 false]
def zH0:LL ty zjI:=za (lSl 28) (za (zds 384) (za zj (za zbk1 (za zj zl))))
def zHY:BL ty z6:=zdw 28 false (zbe)
def zm0 (a:yC) (i:Int) (k:Int) (x_:yC):Wy zjt z6 zxm:=.i (decide (k<Int.ofNat x_.length)) (.i (k != i) (.i (decide (0<=k)&&decide (k<Int.ofNat x_.length)) (.i (decide (0<=i)&&decide (i<Int.ofNat x_.length)) (.bn (zfA (x_.getD k.toNat default) (x_.getD i.toNat default)) λr2=>.i (r2) (.k (.inl false)) (.h (a,(),i,(IntKind.i64.wrap (k+1)),()) (x_,()))) .d) .d) (.h (a,(),i,(IntKind.i64.wrap (k+1)),()) (x_,()))) (.k (.inr (a,i,x_)))
def zwg (x:zjt) (y:z6):=zm0 x.1 x.2.2.1 x.2.2.2.1 y.1
def zm3 (n:Nat) (a:yC) (i:Int) (k:Int) (x_:yC):=zC (zwg) (.inl default) n (a,(),i,k,()) (x_,())
def zG9 (r:zxm):LTree ty:=.ite (isL r) (.done .ret [.lit (.bool (getL r))] []) (.done (.exit 4) [.sl 28 (getR r).1,.own 384,.lit (.int .i64 (getR r).2.1)] [.arr 28 (getR r).2.2 false])
def zH6:LL ty zjt:=za (lSl 28) (za (zds 384) (za zj (za zj zl)))
def znU (a:yC) (i:Int) (x_:yC):Wy zjw z6 zwV:=.i (decide (i<Int.ofNat x_.length)) (.bn (zm4 (a.length+i.toNat +Int.toNat 0+x_.length+1) a i false 0 x_) λr5=>.i (!r5.2.2.1) (.k (.inl false)) (.i (decide (0<=r5.2.1)&&decide (r5.2.1<Int.ofNat r5.2.2.2.length)) (.i ((r5.2.2.2.getD r5.2.1.toNat default).Cf != 1) (.k (.inl false)) (.bn (zm3 (r5.1.length+r5.2.1.toNat +Int.toNat 0+r5.2.2.2.length+1) r5.1 r5.2.1 0 r5.2.2.2) λr4=>.i (isL r4) (.k (.inl (getL r4))) (.h ((getR r4).1,(),(IntKind.i64.wrap ((getR r4).2.1+1)),()) ((getR r4).2.2,())))) .d)) (.k (.inr (a,x_)))
def zxi (x:zjw) (y:z6):=znU x.1 x.2.2.1 y.1
def znR (n:Nat) (a:yC) (i:Int) (x_:yC):=zC (zxi) (.inl default) n (a,(),i,()) (x_,())
def zHX (r:zwV):LTree ty:=.ite (isL r) (.done .ret [.lit (.bool (getL r))] []) (.done (.exit 0) [.sl 28 (getR r).1,.own 384] [.arr 28 (getR r).2 false])
def zJt:LL ty zjw:=za (lSl 28) (za (zds 384) (za zj zl))
def znV (a:yC):Wy z6 Unit (Bool):=.bn (zkc a) λr14=>.bn (znR (a.length+Int.toNat 0+r14.length+1) a 0 r14) λr13=>.i (isL r13) (.k (getL r13)) (.bn (zhy (getR r13).1 (getR r13).2) λr12=>.i (r12) (.bn (zhy (getR r13).2 (getR r13).1) λr11=>.i (r11) (.bn (zlh (getR r13).2) λr10=>.i (r10) (.bn (zkc (getR r13).2) λr9=>.bn (ze7 r9 (getR r13).2) λr8=>.k r8) (.k false)) (.k false)) (.k false))
def zn6 (x:z6) (y:Unit):=znV x.1
def zxz (n:Nat) (a:yC):=zC (zn6) default n (a,()) ()
def zJA:LL ty z6:=za (lSl 28) zl
def znN (a:yC):Wy z6 Unit (Bool):=.bn (zC3 60 [a]) λr24=>.i (!r24) (.k true) (.bn (zbZ a) λr23=>.i (!r23) (.k true) (.bn (zxz 1 a) λr22=>.k r22))
def znY (x:z6) (y:Unit):=znN x.1
def zxp (n:Nat) (a:yC):=zC (znY) default n (a,()) ()
def zGE (x:zjI) (y:z6):Nat:=(x.1.length+Int.toNat x.2.2.1+Int.toNat x.2.2.2.2.1+y.1.length+1)
def zHE (x:zjt) (y:z6):Nat:=(x.1.length+Int.toNat x.2.2.1+Int.toNat x.2.2.2.1+y.1.length+1)
def zH1 (x:zjw) (y:z6):Nat:=(x.1.length+Int.toNat x.2.2.1+y.1.length+1)
def zeZ:=zbaN zb2 96 [(12,zPx),(13,zTT),(14,zj4),(18,zvC),(20,zce),(21,zii),(22,zv3),(32,zAn),(34,zlF)] [] [(7,(kpL [0,3,4])),(11,(kpL [0,3,4,5,6])),(17,(kpL [0,3,4,7])),(3,(kpL [0])),(5,(kpL [0]))] [(7,1,(kpL [0,3])),(7,0,(kpL [2])),(11,3,(kpL [0,3,4,5])),(17,5,(kpL [0,3,4])),(17,0,(kpL [2])),(3,0,(kpL [2])),(5,0,(kpL [2]))] [(11,spW zH0 zHY (zwh) default zGw zGE),(17,spW zH6 zHY (zwg) (.inl default) zG9 zHE),(7,spW zJt zHY (zxi) (.inl default) zHX zH1)] [] [(5,spW zJA zZe (zn6) default z6X λx y=>(1)),(3,spW zJA zZe (znY) default z6X λx y=>(1))]
theorem zHF:zF zeZ (lp (body f9) 1):=zq (id:=11) (hl:=rfl)
theorem zGR:zF zeZ (lp (body f9) 2):=zq (id:=17) (hl:=rfl)
theorem zHZ:zF zeZ (lp (body f9) 0):=zq (id:=7) (hl:=rfl)
theorem zIe:zTD zeZ (jn (body f9) 5):=z4U (id:=5) (hl:=rfl)
theorem zH5:zTD zeZ (jn (body f9) 3):=z4U (id:=3) (hl:=rfl)
def zyO (a:yC):Wy0 (Bool):=.bn (zxp 1 a) λr28=>.k r28
def zfR (a:yC):=(zyO a).fin default
def zKO:AL zb2 z6:=ze (zf (vSl 28)) zu
def zmq:=zi zKO λx=>((zfR x.1).1,zYt (zfR x.1).2)
theorem zGs:Sound Tryz.prog zb2 9 zmq:=
 z1P (cx':=zeZ) zG3 zP6 zbdp (zbbk ⟨z15,z7o.nodr,zms.nodr,zDY.nodr,zcg.nodr,zkI.nodr,zEa,zJ7.nodr,zp2.nodr,trivial⟩) call9 func9 (c:=body f9) (by kernel_rfl) (zXe (l:=[lp (body f9) 0,lp (body f9) 1,lp (body f9) 2]) (by kernel_rfl) ⟨zHZ,zHF,zGR,trivial⟩ (js:=[jn (body f9) 3,jn (body f9) 5]) (by kernel_rfl) ⟨zH5,zIe,trivial⟩) (sg:=⟨[.pure],[]⟩)
def trV (v:Value):TT:=.l [.i v.Kind,.i v.Int,trB v.Text]
mutual
def zdZ:At->TT
 | ⟨k,r,a,f,i,o,b⟩=>.l [.i k,.i r.Table,.i r.Seq,.l (zz7 a),.i f,.l (ziq i),.i o,trV b]
def ziK:Fc->TT
 | ⟨x,e⟩=>.l [zdZ x,.i e]
def zbu:yD->List TT
 | []=>[]
 | x::r=>ziK x::zbu r
def zCK:Term->TT
 | ⟨c,fs⟩=>.l [.l (zbu fs),.i c]
def zdR:yC->List TT
 | []=>[]
 | x::r=>zCK x::zdR r
def zz7:yA->List TT
 | []=>[]
 | x::r=>.l (zdR x)::zz7 r
def zba:Wd->TT
 | ⟨v,a⟩=>.l [trV v,.l (zdR a)]
def ziq:yE->List TT
 | []=>[]
 | x::r=>zba x::ziq r
end
theorem zAc:∀ l,zbu l=l.map ziK
 | []=>by rw [zbu]; rfl
 | x::r=>by rw [zbu,zAc r]; rfl
theorem zKG:∀ l,zdR l=l.map zCK
 | []=>by rw [zdR]; rfl
 | x::r=>by rw [zdR,zKG r]; rfl
theorem zHg:∀ l,zz7 l=l.map λx=>.l (zdR x)
 | []=>by rw [zz7]; rfl
 | x::r=>by rw [zz7,zHg r]; rfl
theorem zol:∀ l,ziq l=l.map zba
 | []=>by rw [ziq]; rfl
 | x::r=>by rw [ziq,zol r]; rfl
theorem zMB:∀ a b:List UInt8,(a.map λx=>TT.i (x.toNat:Int))=(b.map λx=>TT.i (x.toNat:Int))->a=b
 | [],[]=>λ_=>rfl
 | [],_::_=>λh=>by simp at h
 | _::_,[]=>λh=>by simp at h
 | x::a,y::b=>λh=>by
  simp only [List.map,qj,TT.i.injEq] at h;rw [zMB a b h.2,UInt8.toNat_inj.1 (Int.ofNat.inj h.1)]
theorem zbdF {a b:Value} (h:trV a=trV b):a=b:=by
 obtain ⟨k,n,s⟩:=a; obtain ⟨k',n',s'⟩:=b;simp only [trV,trB,TT.l.injEq,qj,TT.i.injEq,and_true] at h;obtain ⟨rfl,rfl,h⟩:=h;have:=zMB _ _ h;obtain ⟨⟨l⟩⟩:=s; obtain ⟨⟨l'⟩⟩:=s';simp only at this; subst this; rfl
mutual
theorem z6S:∀ a b:At,zdZ a=zdZ b->a=b
 | ⟨k,r,a,f,i,o,v⟩,⟨k',r',a',f',i',o',v'⟩=>λh=>by
  simp only [zdZ,TT.l.injEq,qj,TT.i.injEq,and_true] at h;obtain ⟨rfl,h1,h2,h3,rfl,h4,rfl,h5⟩:=h;obtain ⟨t,s⟩:=r; obtain ⟨t',s'⟩:=r';simp only at h1 h2; subst h1 h2;rw [z6F a a' h3,z3l i i' h4,zbdF h5]
theorem zY2:∀ a b:Fc,ziK a=ziK b->a=b
 | ⟨x,e⟩,⟨x',e'⟩=>λh=>by
  simp only [ziK,TT.l.injEq,qj,TT.i.injEq,and_true] at h;rw [z6S x x' h.1,h.2]
theorem zE7:∀ a b:yD,zbu a=zbu b->a=b
 | [],[]=>λ_=>rfl
 | [],_::_=>λh=>by simp [zbu] at h
 | _::_,[]=>λh=>by simp [zbu] at h
 | x::a,y::b=>λh=>by
  simp only [zbu,qj] at h;rw [zY2 x y h.1,zE7 a b h.2]
theorem zbe1:∀ a b:Term,zCK a=zCK b->a=b
 | ⟨c,l⟩,⟨c',l'⟩=>λh=>by
  simp only [zCK,TT.l.injEq,qj,TT.i.injEq,and_true] at h;rw [zE7 l l' h.1,h.2]
theorem zK3:∀ a b:yC,zdR a=zdR b->a=b
 | [],[]=>λ_=>rfl
 | [],_::_=>λh=>by simp [zdR] at h
 | _::_,[]=>λh=>by simp [zdR] at h
 | x::a,y::b=>λh=>by
  simp only [zdR,qj] at h;rw [zbe1 x y h.1,zK3 a b h.2]
theorem z6F:∀ a b:yA,zz7 a=zz7 b->a=b
 | [],[]=>λ_=>rfl
 | [],_::_=>λh=>by simp [zz7] at h
 | _::_,[]=>λh=>by simp [zz7] at h
 | x::a,y::b=>λh=>by
  simp only [zz7,qj,TT.l.injEq] at h;rw [zK3 x y h.1,z6F a b h.2]
theorem z6N:∀ a b:Wd,zba a=zba b->a=b
 | ⟨c,l⟩,⟨c',l'⟩=>λh=>by
  simp only [zba,TT.l.injEq,qj,and_true] at h;rw [zbdF h.1,zK3 l l' h.2]
theorem z3l:∀ a b:yE,ziq a=ziq b->a=b
 | [],[]=>λ_=>rfl
 | [],_::_=>λh=>by simp [ziq] at h
 | _::_,[]=>λh=>by simp [ziq] at h
 | x::a,y::b=>λh=>by
  simp only [ziq,qj] at h;rw [z6N x y h.1,z3l a b h.2]
end
def zdf (P:yC->Prop) (x:At):Prop:=
 (x.Ag.length<=1000000/\x.Items.length<=1000000/\x.Bd.Text.size<=1000000000000)/\(∀ a∈x.Ag,P a)/\∀ w∈x.Items,w.Value.Text.size<=1000000000000/\P w.Ann
def zcH (P:yC->Prop) (l:yD):Prop:=l.length<=1000000/\∀ f∈l,zdf P f.At
def zo:Nat->yC->Prop
 | 0,_=>False
 | n+1,a=>a.length<=1000000/\∀ t∈a,zcH (zo n) t.Fs
theorem zdf.imp {P Q:yC->Prop} (h:∀ a,P a->Q a) {x:At} (hx:zdf P x):zdf Q x:=⟨hx.1,λa ha=>h a (hx.2.1 a ha),λw hw=>⟨(hx.2.2 w hw).1,h _ (hx.2.2 w hw).2⟩⟩
theorem zo.succ:∀ (n:Nat) (a:yC),zo n a->zo (n+1) a
 | 0,_,h=>h.elim
 | n+1,a,h=>⟨h.1,λt ht=>⟨(h.2 t ht).1,λf hf=>((h.2 t ht).2 f hf).imp (zo.succ n)⟩⟩
theorem zo.mono {n m:Nat} {a:yC} (h:zo n a) (hm:n<=m):zo m a:=by
 obtain ⟨k,rfl⟩:=Nat.exists_eq_add_of_le hm;clear hm;induction k with
 | zero=>exact h
 | succ k ih=>exact zo.succ _ _ ih
theorem zmW:∀ {l:yD},zu5 l->∀ x∈l,zze x
 | [],_,x,hx=>by cases hx
 | y::r,h,x,hx=>by
  unfold zu5 at h;rcases qd.1 hx with rfl | hx
  ·exact h.1
  ·exact zmW h.2 x hx
theorem zrn:∀ {l:yC},zg3 l->∀ x∈l,zEH x
 | [],_,x,hx=>by cases hx
 | y::r,h,x,hx=>by
  unfold zg3 at h;rcases qd.1 hx with rfl | hx
  ·exact h.1
  ·exact zrn h.2 x hx
theorem zh3:∀ {l:yA},zz4 l->∀ x∈l,zg3 x/\x.length<=zbm
 | [],_,x,hx=>by cases hx
 | y::r,h,x,hx=>by
  unfold zz4 at h;rcases qd.1 hx with rfl | hx
  ·exact h.1
  ·exact zh3 h.2 x hx
theorem zgs:∀ {l:yE},zuq l->∀ x∈l,zWL x.Value/\zg3 x.Ann/\x.Ann.length<=zbm
 | [],_,x,hx=>by cases hx
 | y::r,h,x,hx=>by
  unfold zuq at h;rcases qd.1 hx with rfl | hx
  ·have:=h.1; unfold zKk at this; exact ⟨this.1,this.2.1,this.2.2⟩
  ·exact zgs h.2 x hx
theorem zuX {t:Term} (h:zEH t):wf2 t.Cf/\zu5 t.Fs/\t.Fs.length<=zbm:=by
 unfold zEH at h; exact ⟨h.1,h.2.1,h.2.2⟩
theorem zo4 {t:Fc} (h:zze t):zgG t.At/\wf3 t.Exp:=by
 unfold zze at h; exact h
theorem zoo {x:At} (h:zgG x):(zz4 x.Ag/\x.Ag.length<=zbm)/\(zuq x.Items/\x.Items.length<=zbm)/\zWL x.Bd/\wf3 x.Kind/\zZn x.Row/\wf3 x.Func/\wf3 x.Op:=by
 obtain ⟨k,r,a,f,i,o,b⟩:=x; unfold zgG at h; exact ⟨h.2.2.1,h.2.2.2.2.1,h.2.2.2.2.2.2,h.1,h.2.1,h.2.2.2.1,h.2.2.2.2.2.1⟩
theorem zcf {z:Int} (h0: -4611686018427387904<=z) (h:z<4611686018427387904):IntKind.i64.wrap z=z:=z1w (by omega) (by omega)
mutual
def zJS:At->Nat
 | ⟨_,_,a,_,i,_,b⟩=>i.length+a.length+b.Text.size+zrO a+zl6 i
def zh6:yD->Nat
 | []=>0
 | ⟨x,_⟩::r=>zJS x+zh6 r
def ze4:yC->Nat
 | []=>0
 | ⟨_,fs⟩::r=>1+fs.length+zh6 fs+ze4 r
def zrO:yA->Nat
 | []=>0
 | a::r=>ze4 a+zrO r
def zl6:yE->Nat
 | []=>0
 | ⟨v,a⟩::r=>v.Text.size+ze4 a+zl6 r
end
theorem z5I (x:At):zJS x=x.Items.length+x.Ag.length+x.Bd.Text.size+zrO x.Ag+zl6 x.Items:=by cases x; rw [zJS]
theorem zRA (f:Fc) (r:yD):zh6 (f::r)=zJS f.At+zh6 r:=by cases f; rw [zh6]
theorem zSZ (t:Term) (r:yC):ze4 (t::r)=1+t.Fs.length+zh6 t.Fs+ze4 r:=by cases t; rw [ze4]
theorem z0B (a:yC) (r:yA):zrO (a::r)=ze4 a+zrO r:=by rw [zrO]
theorem zMk (w:Wd) (r:yE):zl6 (w::r)=w.Value.Text.size+ze4 w.Ann+zl6 r:=by cases w; rw [zl6]
theorem zbdm:zrO []=0:=by rw [zrO]
theorem zbbf:zl6 []=0:=by rw [zl6]
theorem z8n:zh6 []=0:=by rw [zh6]
theorem zbex:ze4 []=0:=by rw [ze4]
section
variable (g:yC->Int->Int->Bool×Int) (a:yC) (limit d:Nat) (hl:limit<=1000) (hd:d<=100) (B:Nat) (hB:B<=1152921504606846976) (P:yC->Prop)
include hl hd hB
theorem w14 (x:At) (i k:Int) (hlen:x.Ag.length<=zbm) (hg:∀ y∈x.Ag,∀ l:Nat,l<=1000->∃ w:Nat,g y l d=(true,(w:Int))/\w<=B/\(w<=l->P y/\ze4 y<=w)):
  ∀ (fuel j n:Nat),x.Ag.length<j+fuel->j<=x.Ag.length->n<=2305843009213693952->∃ n':Nat,zCP g fuel a limit (d+1:Nat) n i k j x=(true,(a,(limit:Int),((d+1:Nat):Int),(n':Int),i,k,x))/\n<=n'/\n'<=max n (limit+B)/\(n'<=limit->(∀ y∈x.Ag.drop j,P y)/\n+zrO (x.Ag.drop j)<=n')
 | 0,j,n,h1,h2,h3=>by omega
 | fuel+1,j,n,h1,h2,h3=>by
  show ∃ n':Nat,(zCf g a limit (d+1:Nat) n i k j x).ev (λx y=>zCP g fuel x.1 x.2.1 x.2.2.1 x.2.2.2.1 x.2.2.2.2.1 x.2.2.2.2.2.1 x.2.2.2.2.2.2.2.1 y.1) (λr=>(true,r)) (false,default)=_/\_
  unfold zCf;have hml:zbm=140737488351232:=rfl;by_cases hj:j<x.Ag.length
  ·by_cases hn:n<=limit
   ·have e1:IntKind.i64.wrap ((limit:Int) - (n:Int))=((limit - n:Nat):Int):=by rw [zcf (by omega) (by omega)]; omega
    obtain ⟨w,hw,hwB,hwP⟩:=hg _ (zp hj) (limit - n) (by omega)
    have ed:IntKind.i64.wrap (((d+1:Nat):Int) - 1)=(d:Int):=by rw [zcf (by omega) (by omega)]; omega
    simp only [Wy.ev_i,Wy.ev_k,Wy.ev_h,Wy.ev_bn,Wy.ev_d,tT,hj,zEK,hn,e1,ed,hw];have e3:IntKind.i64.wrap ((n:Int)+(w:Int))=((n+w:Nat):Int):=by rw [zcf (by omega) (by omega)]; omega
    rw [e3,zN (by omega)]
    obtain ⟨n',h4,h5,h6,h7⟩:=w14 x i k hlen hg fuel (j+1) (n+w) (by omega) (by omega) (by omega)
    refine ⟨n',h4,by omega,by omega,λhn'=> ?_⟩
    obtain ⟨h8,h9⟩:=h7 hn';obtain ⟨p1,p2⟩:=hwP (by omega)
    rw [zbC hj,z0B];refine ⟨λy hy=> ?_,by omega⟩
    rcases qd.1 hy with rfl | hy
    ·exact p1
    ·exact h8 y hy
   ·simp only [Wy.ev_i,Wy.ev_k,Wy.ev_h,Wy.ev_bn,Wy.ev_d,tT,hj,zEK,hn];exact ⟨n,rfl,Nat.le_refl _,by omega,λh=>absurd h hn⟩
  ·simp only [Wy.ev_i,Wy.ev_k,Wy.ev_h,Wy.ev_bn,Wy.ev_d,tT,hj];exact ⟨n,rfl,Nat.le_refl _,by omega,λ_=>by rw [zdj hj,zbdm]; exact ⟨λy hy=>(by cases hy),Nat.le_refl _⟩⟩
theorem w18 (x:At) (i k:Int) (hlen:x.Items.length<=zbm) (hg:∀ y∈x.Items,y.Value.Text.size<=zbm/\∀ l:Nat,l<=1000->∃ w:Nat,g y.Ann l d=(true,(w:Int))/\w<=B/\(w<=l->P y.Ann/\ze4 y.Ann<=w)):
  ∀ (fuel j n:Nat),x.Items.length<j+fuel->j<=x.Items.length->n<=2305843009213693952->∃ n':Nat,zB8 g fuel a limit (d+1:Nat) n i k j x=(true,(a,(limit:Int),((d+1:Nat):Int),(n':Int),i,k))/\n<=n'/\n'<=max n (limit+zbm+B)/\(n'<=limit->(∀ y∈x.Items.drop j,y.Value.Text.size<=1000/\P y.Ann)/\n+zl6 (x.Items.drop j)<=n')
 | 0,j,n,h1,h2,h3=>by omega
 | fuel+1,j,n,h1,h2,h3=>by
  show ∃ n':Nat,(zCc g a limit (d+1:Nat) n i k j x).ev (λx y=>zB8 g fuel x.1 x.2.1 x.2.2.1 x.2.2.2.1 x.2.2.2.2.1 x.2.2.2.2.2.1 x.2.2.2.2.2.2.2.1 y.1) (λr=>(true,r)) (false,default)=_/\_
  unfold zCc;have hml:zbm=140737488351232:=rfl;by_cases hj:j<x.Items.length
  ·by_cases hn:n<=limit
   ·have e1:IntKind.i64.wrap ((limit:Int) - (n:Int))=((limit - n:Nat):Int):=by rw [zcf (by omega) (by omega)]; omega
    obtain ⟨ht,hgy⟩:=hg _ (zp hj);obtain ⟨w,hw,hwB,hwP⟩:=hgy (limit - n) (by omega)
    have ed:IntKind.i64.wrap (((d+1:Nat):Int) - 1)=(d:Int):=by rw [zcf (by omega) (by omega)]; omega
    simp only [Wy.ev_i,Wy.ev_k,Wy.ev_h,Wy.ev_bn,Wy.ev_d,tT,hj,zEK,hn,e1,ed,hw];generalize hsz:(x.Items.getD j default).Value.Text.size=sz at *;have e3:IntKind.i64.wrap (IntKind.i64.wrap ((n:Int)+(sz:Int))+(w:Int))=((n+sz+w:Nat):Int):=by rw [zcf (z:=(n:Int)+(sz:Int)) (by omega) (by omega),zcf (by omega) (by omega)]; omega
    rw [e3,zN (by omega)]
    obtain ⟨n',h4,h5,h6,h7⟩:=w18 x i k hlen hg fuel (j+1) (n+sz+w) (by omega) (by omega) (by omega)
    refine ⟨n',h4,by omega,by omega,λhn'=> ?_⟩
    obtain ⟨h8,h9⟩:=h7 hn';obtain ⟨p1,p2⟩:=hwP (by omega)
    rw [zbC hj,zMk];refine ⟨λy hy=> ?_,by omega⟩
    rcases qd.1 hy with rfl | hy
    ·exact ⟨by omega,p1⟩
    ·exact h8 y hy
   ·simp only [Wy.ev_i,Wy.ev_k,Wy.ev_h,Wy.ev_bn,Wy.ev_d,tT,hj,zEK,hn];exact ⟨n,rfl,Nat.le_refl _,by omega,λh=>absurd h hn⟩
  ·simp only [Wy.ev_i,Wy.ev_k,Wy.ev_h,Wy.ev_bn,Wy.ev_d,tT,hj];exact ⟨n,rfl,Nat.le_refl _,by omega,λ_=>by rw [zdj hj,zbbf]; exact ⟨λy hy=>(by cases hy),Nat.le_refl _⟩⟩
theorem w9 (i:Nat) (hi:i<a.length) (hla:(a.getD i default).Fs.length<=zbm) (hg:∀ f∈(a.getD i default).Fs,f.At.Ag.length<=zbm/\f.At.Items.length<=zbm/\f.At.Bd.Text.size<=zbm/\(∀ y∈f.At.Ag,∀ l:Nat,l<=1000->∃ w:Nat,g y l d=(true,(w:Int))/\w<=B/\(w<=l->P y/\ze4 y<=w))/\
   ∀ y∈f.At.Items,y.Value.Text.size<=zbm/\∀ l:Nat,l<=1000->∃ w:Nat,g y.Ann l d=(true,(w:Int))/\w<=B/\(w<=l->P y.Ann/\ze4 y.Ann<=w)):
  ∀ (fuel k n:Nat),(a.getD i default).Fs.length<k+fuel->k<=(a.getD i default).Fs.length->n<=2305843009213693952->∃ n':Nat,zEx g fuel a limit (d+1:Nat) n i k=(true,(a,(limit:Int),((d+1:Nat):Int),(n':Int),(i:Int)))/\n<=n'/\n'<=max n (limit+4*zbm+B)/\
   (n'<=limit->(∀ f∈(a.getD i default).Fs.drop k,(f.At.Ag.length<=1000/\f.At.Items.length<=1000/\f.At.Bd.Text.size<=1000)/\(∀ y∈f.At.Ag,P y)/\∀ y∈f.At.Items,y.Value.Text.size<=1000/\P y.Ann)/\n+zh6 ((a.getD i default).Fs.drop k)<=n')
 | 0,k,n,h1,h2,h3=>by omega
 | fuel+1,k,n,h1,h2,h3=>by
  show ∃ n':Nat,(zEu g a limit (d+1:Nat) n i k).ev (λx y=>zEx g fuel x.1 x.2.1 x.2.2.1 x.2.2.2.1 x.2.2.2.2.1 x.2.2.2.2.2.1) (λr=>(true,r)) (false,default)=_/\_
  unfold zEu;have hml:zbm=140737488351232:=rfl;by_cases hk:k<(a.getD i default).Fs.length
  ·by_cases hn:n<=limit
   ·simp only [Wy.ev_i,Wy.ev_k,Wy.ev_h,Wy.ev_bn,Wy.ev_d,tT,hi,hk,zEK,hn,At.eta];obtain ⟨ha1,ha2,ha3,hgA,hgI⟩:=hg _ (zp hk);generalize hf:((a.getD i default).Fs.getD k default)=f at *
    have e0:IntKind.i64.wrap (IntKind.i64.wrap (IntKind.i64.wrap ((n:Int)+(f.At.Items.length:Int))+(f.At.Ag.length:Int))+(f.At.Bd.Text.size:Int))=((n+f.At.Items.length+f.At.Ag.length+f.At.Bd.Text.size:Nat):Int):=by
     rw [zcf (z:=(n:Int)+(f.At.Items.length:Int)) (by omega) (by omega),zcf (z:=(n:Int)+(f.At.Items.length:Int)+(f.At.Ag.length:Int)) (by omega) (by omega),zcf (by omega) (by omega)]; omega
    rw [e0];obtain ⟨n1,q1,q2,q3,q4⟩:=w14 g a limit d hl hd B hB P f.At i k ha1 hgA (a.length+limit+(d+1)+((n+f.At.Items.length+f.At.Ag.length+f.At.Bd.Text.size:Nat):Int).toNat +i+k+Int.toNat 0+f.At.Ag.length+f.At.Items.length+1) 0 (n+f.At.Items.length+f.At.Ag.length+f.At.Bd.Text.size) (by omega) (by omega) (by omega)
    rw [show ((0:Nat):Int)=(0:Int) from rfl] at q1
    rw [q1];simp only [cond_true,At.eta,Int.toNat_natCast];obtain ⟨n2,r1,r2,r3,r4⟩:=w18 g a limit d hl hd B hB P f.At i k ha2 hgI (a.length+limit+(d+1)+n1+i+k+Int.toNat 0+f.At.Ag.length+f.At.Items.length+1) 0 n1 (by omega) (by omega) (by omega)
    rw [show ((0:Nat):Int)=(0:Int) from rfl] at r1
    rw [r1];simp only [cond_true];rw [zN (by omega)]
    obtain ⟨n',h4,h5,h6,h7⟩:=w9 i hi hla hg fuel (k+1) n2 (by omega) (by omega) (by omega)
    refine ⟨n',h4,by omega,by omega,λhn'=> ?_⟩
    obtain ⟨h8,h9⟩:=h7 hn';obtain ⟨q5,q6⟩:=q4 (by omega)
    obtain ⟨r5,r6⟩:=r4 (by omega)
    rw [List.drop_zero] at q5 q6 r5 r6;rw [zbC hk,zRA,hf,z5I];refine ⟨λy hy=> ?_,by omega⟩
    rcases qd.1 hy with rfl | hy
    ·exact ⟨⟨by omega,by omega,by omega⟩,q5,r5⟩
    ·exact h8 y hy
   ·simp only [Wy.ev_i,Wy.ev_k,Wy.ev_h,Wy.ev_bn,Wy.ev_d,tT,hi,hk,zEK,hn];exact ⟨n,rfl,Nat.le_refl _,by omega,λh=>absurd h hn⟩
  ·simp only [Wy.ev_i,Wy.ev_k,Wy.ev_h,Wy.ev_bn,Wy.ev_d,tT,hi,hk];exact ⟨n,rfl,Nat.le_refl _,by omega,λ_=>by rw [zdj hk,z8n]; exact ⟨λy hy=>(by cases hy),Nat.le_refl _⟩⟩
theorem w5 (hla:∀ t∈a,t.Fs.length<=zbm) (hg:∀ t∈a,∀ f∈t.Fs,f.At.Ag.length<=zbm/\f.At.Items.length<=zbm/\f.At.Bd.Text.size<=zbm/\(∀ y∈f.At.Ag,∀ l:Nat,l<=1000->∃ w:Nat,g y l d=(true,(w:Int))/\w<=B/\(w<=l->P y/\ze4 y<=w))/\
   ∀ y∈f.At.Items,y.Value.Text.size<=zbm/\∀ l:Nat,l<=1000->∃ w:Nat,g y.Ann l d=(true,(w:Int))/\w<=B/\(w<=l->P y.Ann/\ze4 y.Ann<=w)) (hlen:a.length<=zbm):
  ∀ (fuel i n:Nat),a.length<i+fuel->i<=a.length->n<=2305843009213693952->∃ n':Nat,zEr g fuel a limit (d+1:Nat) n i=(true,(n':Int))/\n<=n'/\n'<=max n (limit+6*zbm+B)/\
   (n'<=limit->(n+(a.length - i)<=n'/\n+ze4 (a.drop i)<=n')/\∀ t∈a.drop i,t.Fs.length<=1000/\∀ f∈t.Fs,(f.At.Ag.length<=1000/\f.At.Items.length<=1000/\f.At.Bd.Text.size<=1000)/\(∀ y∈f.At.Ag,P y)/\∀ y∈f.At.Items,y.Value.Text.size<=1000/\P y.Ann)
 | 0,i,n,h1,h2,h3=>by omega
 | fuel+1,i,n,h1,h2,h3=>by
  show ∃ n':Nat,(zEs g a limit (d+1:Nat) n i).ev (λx y=>zEr g fuel x.1 x.2.1 x.2.2.1 x.2.2.2.1 x.2.2.2.2.1) (λr=>(true,r)) (false,default)=_/\_
  unfold zEs;have hml:zbm=140737488351232:=rfl;by_cases hi:i<a.length
  ·by_cases hn:n<=limit
   ·simp only [Wy.ev_i,Wy.ev_k,Wy.ev_h,Wy.ev_bn,Wy.ev_d,tT,hi,zEK,hn];have hla':=hla _ (zp hi)
    have e0:IntKind.i64.wrap (IntKind.i64.wrap ((n:Int)+1)+((a.getD i default).Fs.length:Int))=((n+1+(a.getD i default).Fs.length:Nat):Int):=by
     rw [zN (by omega),zcf (by omega) (by omega)]; omega
    rw [e0];obtain ⟨n1,q1,q2,q3,q4⟩:=w9 g a limit d hl hd B hB P i hi hla' (hg _ (zp hi)) (a.length+limit+(d+1)+((n+1+(a.getD i default).Fs.length:Nat):Int).toNat +i+Int.toNat 0+1) 0 (n+1+(a.getD i default).Fs.length) (by omega) (by omega) (by omega)
    rw [show ((0:Nat):Int)=(0:Int) from rfl] at q1
    rw [q1];simp only [cond_true];rw [zN (by omega)]
    obtain ⟨n',h4,h5,h6,h7⟩:=w5 hla hg hlen fuel (i+1) n1 (by omega) (by omega) (by omega)
    refine ⟨n',h4,by omega,by omega,λhn'=> ?_⟩
    obtain ⟨⟨h8,h10⟩,h9⟩:=h7 hn';obtain ⟨q5,q6⟩:=q4 (by omega)
    rw [List.drop_zero] at q5 q6;rw [zbC hi,zSZ];refine ⟨⟨by omega,by omega⟩,λy hy=> ?_⟩
    rcases qd.1 hy with rfl | hy
    ·exact ⟨by omega,q5⟩
    ·exact h9 y hy
   ·simp only [Wy.ev_i,Wy.ev_k,Wy.ev_h,Wy.ev_bn,Wy.ev_d,tT,hi,zEK,hn];exact ⟨n,rfl,Nat.le_refl _,by omega,λh=>absurd h hn⟩
  ·simp only [Wy.ev_i,Wy.ev_k,Wy.ev_h,Wy.ev_bn,Wy.ev_d,tT,hi];exact ⟨n,rfl,Nat.le_refl _,by omega,λ_=>by rw [zdj hi,zbex]; exact ⟨⟨by omega,Nat.le_refl _⟩,λy hy=>(by cases hy)⟩⟩
end
theorem z9O:∀ (d N:Nat),d<N->d<=12->∀ (l:Nat),l<=1000->∀ a,zg3 a->a.length<=zbm->∃ w:Nat,zrL N a l d=(true,(w:Int))/\w<=(d+1)*4503599627370496/\(w<=l->zo d a/\ze4 a<=w)
 | _,0,h,_,_,_,_,_,_=>by omega
 | 0,N+1,_,_,l,hl,a,hw,hlen=>by
  rw [zMU];unfold zxH zFp;refine ⟨l+1, ?_,by omega,λh=>by omega⟩
  simp only [Wy.fin_i,Wy.fin_k];rw [zN (by omega)]; rfl
 | d+1,N+1,hN,hd,l,hl,a,hw,hlen=>by
  rw [zMU];unfold zxH zFp;have hml:zbm=140737488351232:=rfl;have ih:=λy (h1:zg3 y) (h2:y.length<=zbm) l hl=>z9O d N (by omega) (by omega) l hl y h1 h2
  have e0:(((d+1:Nat):Int)==(0:Int))=false:=by
   rw [beq_eq_false_iff_ne]; omega
  obtain ⟨n',h1,h2,h3,h4⟩:=w5 (zrL N) a l d hl (by omega) ((d+1)*4503599627370496) (by omega) (zo d) (λt ht=>(zuX (zrn hw t ht)).2.2) (λt ht f hf=>by
   have hx:=zoo (zo4 (zmW (zuX (zrn hw t ht)).2.1 f hf)).1;refine ⟨hx.1.2,hx.2.1.2,hx.2.2.1.2.2,λy hy l hl=> ?_,λy hy=> ?_⟩
   ·have:=zh3 hx.1.1 y hy;exact ih y this.1 this.2 l hl
   ·have:=zgs hx.2.1.1 y hy;exact ⟨this.1.2.2,λl hl=>ih y.Ann this.2.1 this.2.2 l hl⟩) hlen (a.length+l+(d+1)+Int.toNat 0+Int.toNat 0+1) 0 0 (by omega) (by omega) (by omega)
  rw [show ((0:Nat):Int)=(0:Int) from rfl] at h1
  refine ⟨n', ?_,by omega,λhn=> ?_⟩
  ·simp only [Wy.fin_i,Wy.fin_k,Wy.fin_bn,e0,cond_false,Int.toNat_natCast,h1,cond_true]
  ·obtain ⟨⟨h5,h12⟩,h6⟩:=h4 hn;rw [List.drop_zero] at h12;refine ⟨⟨by omega,λt ht=> ?_⟩,by omega⟩
   obtain ⟨h7,h8⟩:=h6 t (by simpa using ht)
   refine ⟨by omega,λf hf=> ?_⟩
   obtain ⟨h9,h10,h11⟩:=h8 f hf;exact ⟨⟨by omega,by omega,by omega⟩,h10,λw hw=>⟨by have:=(h11 w hw).1; omega,(h11 w hw).2⟩⟩
theorem zbba (limit:Nat) (hl:limit<=1000) (l:yA) (hll:l.length<=1000) (hw:∀ a∈l,zg3 a/\a.length<=zbm):∀ (n i:Nat),l.length<i+n->i<=l.length->∃ r,zOX n limit l i=(true,r)/\((r=.inl false)\/(r=.inr ()/\∀ a∈l.drop i,zo 12 a/\ze4 a<=limit))
 | 0,i,h1,h2=>by omega
 | n+1,i,h1,h2=>by
  show ∃ r,(zP7 limit l i).ev (λx y=>zOX n x.1 x.2.1 x.2.2.1) (λr=>(true,r)) (false,.inl default)=(true,r)/\_
  unfold zP7;by_cases hi:i<l.length
  ·obtain ⟨w,q1,q2,q3⟩:=z9O 12 1000 (by omega) (by omega) limit hl _ (hw _ (zp hi)).1 (hw _ (zp hi)).2
   have q1':zO2 (l.getD i default) (limit:Int) 12=(true,(w:Int)):=q1;simp only [Wy.ev_i,Wy.ev_k,Wy.ev_h,Wy.ev_bn,Wy.ev_d,tT,hi,q1',zsx];by_cases hg:limit<w
   ·simp only [hg,decide_true,cond_true];exact ⟨_,rfl,.inl rfl⟩
   ·simp only [hg,decide_false,cond_false];rw [zN (by omega)]
    obtain ⟨r,h3,h4⟩:=zbba limit hl l hll hw n (i+1) (by omega) (by omega)
    refine ⟨r,h3, ?_⟩;rcases h4 with h4 | ⟨h4,h5⟩
    ·exact .inl h4
    ·refine .inr ⟨h4,λa ha=> ?_⟩
     rw [zbC hi] at ha;rcases qd.1 ha with rfl | ha
     ·exact ⟨(q3 (by omega)).1,by have:=(q3 (by omega)).2; omega⟩
     ·exact h5 a ha
  ·simp only [Wy.ev_i,Wy.ev_k,Wy.ev_h,Wy.ev_bn,Wy.ev_d,tT,hi];exact ⟨_,rfl,.inr ⟨rfl,λa ha=>by rw [zdj hi] at ha; cases ha⟩⟩
theorem zbjM (limit:Nat) (hl:limit<=1000) (l:yA) (hll:l.length<=1000) (hw:∀ a∈l,zg3 a/\a.length<=zbm):∃ b,zC3 limit l=(true,b)/\(b=true->∀ a∈l,zo 12 a/\ze4 a<=limit):=by
 unfold zC3 z3o;obtain ⟨r,h1,h2⟩:=zbba limit hl l hll hw (limit+l.length+Int.toNat 0+1) 0 (by omega) (by omega)
 rw [show ((0:Nat):Int)=(0:Int) from rfl] at h1
 rw [Wy.fin_bn];simp only [Int.toNat_natCast,h1,cond_true];rcases h2 with rfl | ⟨rfl,h2⟩
 ·exact ⟨false,rfl,λh=>by cases h⟩
 ·exact ⟨true,rfl,λ_ a ha=>h2 a (by simpa using ha)⟩
mutual
def zfK:At->Nat
 | ⟨_,_,a,_,i,_,_⟩=>zfP a+zdC i
def zbM:yD->Nat
 | []=>0
 | ⟨x,_⟩::r=>zfK x+zbM r
def zL:yC->Nat
 | []=>0
 | ⟨_,fs⟩::r=>1+fs.length+zbM fs+zL r
def zfP:yA->Nat
 | []=>0
 | a::r=>zL a+zfP r
def zdC:yE->Nat
 | []=>0
 | ⟨_,a⟩::r=>1+zL a+zdC r
end
theorem zhT (x:At):zfK x=zfP x.Ag+zdC x.Items:=by cases x; rw [zfK]
theorem zdv (f:Fc) (r:yD):zbM (f::r)=zfK f.At+zbM r:=by cases f; rw [zbM]
theorem zeX (t:Term) (r:yC):zL (t::r)=1+t.Fs.length+zbM t.Fs+zL r:=by cases t; rw [zL]
theorem zfp (a:yC) (r:yA):zfP (a::r)=zL a+zfP r:=by rw [zfP]
theorem zi5 (w:Wd) (r:yE):zdC (w::r)=1+zL w.Ann+zdC r:=by cases w; rw [zdC]
theorem zhx:zfP []=0:=by rw [zfP]
theorem zgr:zdC []=0:=by rw [zdC]
theorem zjC:zbM []=0:=by rw [zbM]
theorem zuZ:zL []=0:=by rw [zL]
theorem z5R (l:yA):∀ n:Nat,l.foldl (λs t=>s+zL t) n=n+zfP l:=by
 induction l with
 | nil=>intro n; rw [zhx]; rfl
 | cons a r ih=>intro n; rw [List.foldl_cons,ih,zfp]; omega
theorem z3r (l:yE):∀ n:Nat,l.foldl (λs t=>s+1+zL t.Ann) n=n+zdC l:=by
 induction l with
 | nil=>intro n; rw [zgr]; rfl
 | cons a r ih=>intro n; rw [List.foldl_cons,ih,zi5]; omega
theorem zbaC (l:yD):∀ n:Nat,l.foldl (λs t=>s+zfK t.At) n=n+zbM l:=by
 induction l with
 | nil=>intro n; rw [zjC]; rfl
 | cons a r ih=>intro n; rw [List.foldl_cons,ih,zdv]; omega
theorem z9l (l:yC):∀ n:Nat,l.foldl (λs t=>s+1+t.Fs.length+zbM t.Fs) n=n+zL l:=by
 induction l with
 | nil=>intro n; rw [zuZ]; rfl
 | cons a r ih=>intro n; rw [List.foldl_cons,ih,zeX]; omega
theorem zpX {n m:Nat} (h:n+m<=4611686018427387904):IntKind.i64.wrap ((n:Int)+(m:Int))=((n+m:Nat):Int):=by
 rw [z1w (by omega) (by omega)]; omega
theorem zhq {i:Nat} (h:i<4611686018427387904):IntKind.i64.wrap ((i:Int)+1)=((i+1:Nat):Int):=zN h
section
variable (g:yC->Bool×Int)
theorem zbi3 (l:yA) (hl:l.length<=1000000) (hg:∀ y∈l,g y=(true,(zL y:Int))) (t12:yC) (t13 t14:Int) (t25:yD) (t26 t27:Int) (f:Fc) (fuel n:Nat) (hf:l.length<fuel) (hn:n+zfP l<=4611686018427387904):
  zF3 g fuel n t12 t13 t14 t25 t26 t27 l l.length 0 f=(true,(((n+zfP l:Nat):Int),t12,t13,t14,t25,t26,t27,f)):=by
 have h:=zdk (W:=zw5 g) (z:=default) (l:=l) (λi (n:Nat)=>((n:Int),(),t12,t13,t14,t25,t26,t27,l,(l.length:Int),(i:Int),())) (λ_ _=>(f,())) (λy n=>.inl (n+zL y)) (λn=>((n:Int),t12,t13,t14,t25,t26,t27,f)) (λi n=>n+zfP (l.drop i)<=4611686018427387904)
  (λi n hi hI=>.inl ⟨_,rfl,by rw [zbC hi,zfp] at hI; omega,λH K D=>by
   rw [zbC hi,zfp] at hI;show (zlo g n t12 t13 t14 t25 t26 t27 l l.length i f).ev H K D=_;unfold zlo;simp only [Wy.ev_i,Wy.ev_k,Wy.ev_h,Wy.ev_bn,Wy.ev_d,tT,hi,hg _ (zp hi)];rw [zpX (by omega),zhq (by omega)]⟩)
  (λn hI H K D=>by
   show (zlo g n t12 t13 t14 t25 t26 t27 l l.length l.length f).ev H K D=_;unfold zlo;simp only [Wy.ev_i,Wy.ev_k,tT,Nat.lt_irrefl]) fuel 0 n (by omega) (Nat.zero_le _) (by simpa using hn)
 rw [List.drop_zero,zdl,z5R] at h;exact h
theorem zbir (l:yE) (hl:l.length<=1000000) (hg:∀ y∈l,g y.Ann=(true,(zL y.Ann:Int))) (t12:yC) (t13 t14:Int) (t25:yD) (t26 t27:Int) (fuel n:Nat) (hf:l.length<fuel) (hn:n+zdC l<=4611686018427387904):
  zF8 g fuel n t12 t13 t14 t25 t26 t27 l l.length 0=(true,(((n+zdC l:Nat):Int),t12,t13,t14,t25,t26,t27)):=by
 have h:=zdk (W:=zxE g) (z:=default) (l:=l) (λi (n:Nat)=>((n:Int),t12,t13,t14,t25,t26,t27,l,(l.length:Int),(i:Int),())) (λ_ _=>()) (λy n=>.inl (n+1+zL y.Ann)) (λn=>((n:Int),t12,t13,t14,t25,t26,t27)) (λi n=>n+zdC (l.drop i)<=4611686018427387904)
  (λi n hi hI=>.inl ⟨_,rfl,by rw [zbC hi,zi5] at hI; omega,λH K D=>by
   rw [zbC hi,zi5] at hI;show (zlr g n t12 t13 t14 t25 t26 t27 l l.length i).ev H K D=_;unfold zlr;simp only [Wy.ev_i,Wy.ev_k,Wy.ev_h,Wy.ev_bn,Wy.ev_d,tT,hi,hg _ (zp hi)];rw [zhq (by omega),show (1:Int)=((1:Nat):Int) from rfl,zpX (by omega),zpX (by omega), <- Nat.add_assoc]⟩)
  (λn hI H K D=>by
   show (zlr g n t12 t13 t14 t25 t26 t27 l l.length l.length).ev H K D=_;unfold zlr;simp only [Wy.ev_i,Wy.ev_k,tT,Nat.lt_irrefl]) fuel 0 n (by omega) (Nat.zero_le _) (by simpa using hn)
 rw [List.drop_zero,zdl,z3r] at h;exact h
theorem zbjX (l:yD) (hl:l.length<=1000000) (hg:∀ f∈l,(f.At.Ag.length<=1000000/\f.At.Items.length<=1000000)/\(∀ y∈f.At.Ag,g y=(true,(zL y:Int)))/\∀ y∈f.At.Items,g y.Ann=(true,(zL y.Ann:Int))) (t12:yC) (t13 t14:Int) (fuel n:Nat) (hf:l.length<fuel) (hn:n+zbM l<=4611686018427387904):
  zGx g fuel n t12 t13 t14 l l.length 0=(true,(((n+zbM l:Nat):Int),t12,t13,t14)):=by
 have h:=zdk (W:=zy7 g) (z:=default) (l:=l) (λi (n:Nat)=>((n:Int),t12,t13,t14,l,(l.length:Int),(i:Int),())) (λ_ _=>()) (λy n=>.inl (n+zfK y.At)) (λn=>((n:Int),t12,t13,t14)) (λi n=>n+zbM (l.drop i)<=4611686018427387904)
  (λi n hi hI=>.inl ⟨_,rfl,by rw [zbC hi,zdv] at hI; omega,λH K D=>by
   rw [zbC hi,zdv,zhT] at hI;obtain ⟨⟨h1,h2⟩,h3,h4⟩:=hg _ (zp hi);show (zmm g n t12 t13 t14 l l.length i).ev H K D=_;unfold zmm;simp only [Wy.ev_i,Wy.ev_k,Wy.ev_h,Wy.ev_bn,Wy.ev_d,tT,hi,At.eta];rw [zbi3 g _ h1 h3 _ _ _ _ _ _ _ _ _ (by omega) (by omega)]
   simp only [cond_true,Int.toNat_natCast];rw [zbir g _ h2 h4 _ _ _ _ _ _ _ _ (by omega) (by omega)]
   simp only [cond_true];rw [zhq (by omega),zhT,Nat.add_assoc]⟩)
  (λn hI H K D=>by
   show (zmm g n t12 t13 t14 l l.length l.length).ev H K D=_;unfold zmm;simp only [Wy.ev_i,Wy.ev_k,tT,Nat.lt_irrefl]) fuel 0 n (by omega) (Nat.zero_le _) (by simpa using hn)
 rw [List.drop_zero,zdl,zbaC] at h;exact h
theorem zbkf (l:yC) (hl:l.length<=1000000) (hg:∀ t∈l,t.Fs.length<=1000000/\∀ f∈t.Fs,(f.At.Ag.length<=1000000/\f.At.Items.length<=1000000)/\(∀ y∈f.At.Ag,g y=(true,(zL y:Int)))/\∀ y∈f.At.Items,g y.Ann=(true,(zL y.Ann:Int))) (fuel n:Nat) (hf:l.length<fuel) (hn:n+zL l<=4611686018427387904):
  zGy g fuel n l l.length 0=(true,((n+zL l:Nat):Int)):=by
 have h:=zdk (W:=zzK g) (z:=default) (l:=l) (λi (n:Nat)=>((n:Int),l,(l.length:Int),(i:Int),())) (λ_ _=>()) (λy n=>.inl (n+1+y.Fs.length+zbM y.Fs)) (λn=>(n:Int)) (λi n=>n+zL (l.drop i)<=4611686018427387904)
  (λi n hi hI=>.inl ⟨_,rfl,by rw [zbC hi,zeX] at hI; omega,λH K D=>by
   rw [zbC hi,zeX] at hI;obtain ⟨h1,h3⟩:=hg _ (zp hi);show (zl5 g n l l.length i).ev H K D=_;unfold zl5;simp only [Wy.ev_i,Wy.ev_k,Wy.ev_h,Wy.ev_bn,Wy.ev_d,tT,hi,At.eta];rw [show (1:Int)=((1:Nat):Int) from rfl,zpX (n:=1) (by omega),zpX (by omega)]
   rw [zbjX g _ h1 h3 _ _ _ _ _ (by omega) (by omega)]
   simp only [cond_true];rw [show ((1:Nat):Int)=(1:Int) from rfl,zhq (by omega),Nat.add_assoc n 1]⟩)
  (λn hI H K D=>by
   show (zl5 g n l l.length l.length).ev H K D=_;unfold zl5;simp only [Wy.ev_i,Wy.ev_k,tT,Nat.lt_irrefl]) fuel 0 n (by omega) (Nat.zero_le _) (by simpa using hn)
 rw [List.drop_zero,zdl,z9l] at h;exact h
theorem zbhO (x:At) (hl:x.Ag.length<=1000000) (hg:∀ y∈x.Ag,g y=(true,(zL y:Int))) (a:yC) (i k:Int) (fuel n:Nat) (hf:x.Ag.length<fuel) (hn:n+zfP x.Ag<=4611686018427387904):
  zOU g fuel a n i k 0 x=(true,(a,((n+zfP x.Ag:Nat):Int),i,k,x)):=by
 have h:=zdk (W:=zFx g) (z:=default) (l:=x.Ag) (λj (n:Nat)=>(a,(n:Int),i,k,(),(j:Int),())) (λ_ _=>(x,())) (λy n=>.inl (n+zL y)) (λn=>(a,(n:Int),i,k,x)) (λi n=>n+zfP (x.Ag.drop i)<=4611686018427387904)
  (λj n hi hI=>.inl ⟨_,rfl,by rw [zbC hi,zfp] at hI; omega,λH K D=>by
   rw [zbC hi,zfp] at hI;show (zr9 g a n i k j x).ev H K D=_;unfold zr9;simp only [Wy.ev_i,Wy.ev_k,Wy.ev_h,Wy.ev_bn,Wy.ev_d,tT,hi,hg _ (zp hi)];rw [zpX (by omega),zhq (by omega)]⟩)
  (λn hI H K D=>by
   show (zr9 g a n i k x.Ag.length x).ev H K D=_;unfold zr9;simp only [Wy.ev_i,Wy.ev_k,tT,Nat.lt_irrefl]) fuel 0 n (by omega) (Nat.zero_le _) (by simpa using hn)
 rw [List.drop_zero,zdl,z5R] at h;exact h
theorem zbgF (x:At) (hl:x.Items.length<=1000000) (hg:∀ y∈x.Items,g y.Ann=(true,(zL y.Ann:Int))) (a:yC) (i k:Int) (fuel n:Nat) (hf:x.Items.length<fuel) (hn:n+zdC x.Items<=4611686018427387904):
  zPw g fuel a n i k 0 x=(true,(a,((n+zdC x.Items:Nat):Int),i,k)):=by
 have h:=zdk (W:=zFt g) (z:=default) (l:=x.Items) (λj (n:Nat)=>(a,(n:Int),i,k,(),(j:Int),())) (λ_ _=>(x,())) (λy n=>.inl (n+1+zL y.Ann)) (λn=>(a,(n:Int),i,k)) (λi n=>n+zdC (x.Items.drop i)<=4611686018427387904)
  (λj n hi hI=>.inl ⟨_,rfl,by rw [zbC hi,zi5] at hI; omega,λH K D=>by
   rw [zbC hi,zi5] at hI;show (zsM g a n i k j x).ev H K D=_;unfold zsM;simp only [Wy.ev_i,Wy.ev_k,Wy.ev_h,Wy.ev_bn,Wy.ev_d,tT,hi,hg _ (zp hi)];rw [zhq (i:=j) (by omega),zhq (i:=n) (by omega),zpX (by omega)]⟩)
  (λn hI H K D=>by
   show (zsM g a n i k x.Items.length x).ev H K D=_;unfold zsM;simp only [Wy.ev_i,Wy.ev_k,tT,Nat.lt_irrefl]) fuel 0 n (by omega) (Nat.zero_le _) (by simpa using hn)
 rw [List.drop_zero,zdl,z3r] at h;exact h
theorem zPG:∀ (a:yC) (i:Nat),i<a.length->(a.getD i default).Fs.length<=zb9 a
 | [],i,h=>by simp at h
 | t::r,0,h=>by
  have:∀ l:yD,l.length<=zLz l:=λl=>by
   induction l with
   | nil=>exact Nat.le_refl _
   | cons f r ih=>simp only [zLz,qf]; omega
  have:=this t.Fs;simp only [zb9,List.getD_cons_zero]; omega
 | t::r,i+1,h=>by
  have:=zPG r i (by simpa using h)
  simp only [zb9,List.getD_cons_succ]; omega
theorem foldl_factors' (l:yD):∀ n:Nat,l.foldl (λs t=>s+1+zfK t.At) n=n+l.length+zbM l:=by
 induction l with
 | nil=>intro n; rw [zjC]; rfl
 | cons a r ih=>intro n; rw [List.foldl_cons,ih,zdv,qf]; omega
theorem zbiY (a:yC) (i:Nat) (hi:i<a.length) (hla:a.length<=1000000) (l:yD) (el:(a.getD i default).Fs=l) (hl:l.length<=1000000) (hg:∀ f∈l,(f.At.Ag.length<=1000000/\f.At.Items.length<=1000000)/\(∀ y∈f.At.Ag,g y=(true,(zL y:Int)))/\∀ y∈f.At.Items,g y.Ann=(true,(zL y.Ann:Int))) (fuel n:Nat) (hf:l.length<fuel) (hn:n+l.length+zbM l<=4611686018427387904):
  zRf g fuel a n i 0=(true,(a,((n+l.length+zbM l:Nat):Int),(i:Int))):=by
 have h:=zdk (W:=zHt g) (z:=default) (l:=l) (λk (n:Nat)=>(a,(n:Int),(i:Int),(k:Int),())) (λ_ _=>()) (λy n=>.inl (n+1+zfK y.At)) (λn=>(a,(n:Int),(i:Int))) (λk n=>n+(l.drop k).length+zbM (l.drop k)<=4611686018427387904)
  (λk n hk hI=>.inl ⟨_,rfl,by rw [zbC hk,zdv,qf] at hI; omega,λH K D=>by
   rw [zbC hk,zdv,zhT,qf] at hI;obtain ⟨⟨h1,h2⟩,h3,h4⟩:=hg _ (zp hk);show (zuN g a n i k).ev H K D=_;unfold zuN;simp only [Wy.ev_i,Wy.ev_k,Wy.ev_h,Wy.ev_bn,Wy.ev_d,tT,hi,el,hk,At.eta];rw [zhq (i:=n) (by omega)]
   rw [zbhO g _ h1 h3 _ _ _ _ _ (by omega) (by omega)]
   simp only [cond_true,Int.toNat_natCast,At.eta];rw [zbgF g _ h2 h4 _ _ _ _ _ (by omega) (by omega)]
   simp only [cond_true];rw [zhq (by omega),zhT,Nat.add_assoc (n+1)]⟩)
  (λn hI H K D=>by
   show (zuN g a n i l.length).ev H K D=_;unfold zuN;simp only [Wy.ev_i,Wy.ev_k,tT,hi,el,Nat.lt_irrefl]) fuel 0 n (by omega) (Nat.zero_le _) (by simpa using hn)
 rw [List.drop_zero,zdl,foldl_factors'] at h;exact h
theorem zbit (l:yC) (hl:l.length<=1000000) (hg:∀ t∈l,t.Fs.length<=1000000/\∀ f∈t.Fs,(f.At.Ag.length<=1000000/\f.At.Items.length<=1000000)/\(∀ y∈f.At.Ag,g y=(true,(zL y:Int)))/\∀ y∈f.At.Items,g y.Ann=(true,(zL y.Ann:Int))) (fuel n:Nat) (hf:l.length<fuel) (hn:n+zL l<=4611686018427387904):
  zRu g fuel l n 0=(true,((n+zL l:Nat):Int)):=by
 have h:=zdk (W:=zHa g) (z:=default) (l:=l) (λi (n:Nat)=>(l,(n:Int),(i:Int),())) (λ_ _=>()) (λy n=>.inl (n+1+y.Fs.length+zbM y.Fs)) (λn=>(n:Int)) (λi n=>n+zL (l.drop i)<=4611686018427387904)
  (λi n hi hI=>.inl ⟨_,rfl,by rw [zbC hi,zeX] at hI; omega,λH K D=>by
   rw [zbC hi,zeX] at hI;obtain ⟨h1,h3⟩:=hg _ (zp hi);have hz:=zPG l i hi;show (zvj g l n i).ev H K D=_;unfold zvj;simp only [Wy.ev_i,Wy.ev_k,Wy.ev_h,Wy.ev_bn,Wy.ev_d,tT,hi,At.eta];rw [zhq (i:=n) (by omega)]
   rw [zbiY g l i hi hl _ rfl h1 h3 _ _ (by omega) (by omega)]
   simp only [cond_true];rw [zhq (by omega)]⟩)
  (λn hI H K D=>by
   show (zvj g l n l.length).ev H K D=_;unfold zvj;simp only [Wy.ev_i,Wy.ev_k,tT,Nat.lt_irrefl]) fuel 0 n (by omega) (Nat.zero_le _) (by simpa using hn)
 rw [List.drop_zero,zdl,z9l] at h;exact h
end
theorem zbcY {l:yA} {y:yC} (h:y∈l):zL y<=zfP l:=by
 induction l with
 | nil=>cases h
 | cons a r ih=>
  rw [zfp];rcases qd.1 h with rfl | h
  ·omega
  ·have:=ih h; omega
theorem zbch {l:yE} {y:Wd} (h:y∈l):zL y.Ann<=zdC l:=by
 induction l with
 | nil=>cases h
 | cons a r ih=>
  rw [zi5];rcases qd.1 h with rfl | h
  ·omega
  ·have:=ih h; omega
theorem zUN {l:yD} {y:Fc} (h:y∈l):zfK y.At<=zbM l:=by
 induction l with
 | nil=>cases h
 | cons a r ih=>
  rw [zdv];rcases qd.1 h with rfl | h
  ·omega
  ·have:=ih h; omega
theorem zbeP {l:yC} {y:Term} (h:y∈l):zbM y.Fs<=zL l:=by
 induction l with
 | nil=>cases h
 | cons a r ih=>
  rw [zeX];rcases qd.1 h with rfl | h
  ·omega
  ·have:=ih h; omega
theorem z7z {a:yC} {t:Term} {f:Fc} (ht:t∈a) (hf:f∈t.Fs):zfP f.At.Ag+zdC f.At.Items<=zL a:=by
 have h1:=zbeP ht; have h2:=zUN hf; rw [zhT] at h2; omega
theorem zRX {d:Nat} {a:yC} (h:zo (d+1) a) {t:Term} (ht:t∈a):t.Fs.length<=1000000/\∀ f∈t.Fs,(f.At.Ag.length<=1000000/\f.At.Items.length<=1000000)/\(∀ y∈f.At.Ag,zo d y)/\∀ y∈f.At.Items,zo d y.Ann:=
 ⟨(h.2 t ht).1,λf hf=>have q:=(h.2 t ht).2 f hf; ⟨⟨q.1.1,q.1.2.1⟩,q.2.1,λy hy=>(q.2.2 y hy).2⟩⟩
theorem z4g:∀ (n d:Nat) (a:yC),zo d a->d<=n->zL a<=4611686018427387904->zmJ n a=(true,(zL a:Int))/\zxa n a=(true,(zL a:Int))
 | n,0,a,h,hd,hs=>h.elim
 | 0,d+1,a,h,hd,hs=>by omega
 | n+1,d+1,a,h,hd,hs=>by
  have hg:=λy (hy:zo d y) (hs:zL y<=4611686018427387904)=>z4g n d y hy (by omega) hs
  have hsub:∀ t∈a,t.Fs.length<=1000000/\∀ f∈t.Fs,(f.At.Ag.length<=1000000/\f.At.Items.length<=1000000)/\(∀ y∈f.At.Ag,zo d y/\zL y<=4611686018427387904)/\∀ y∈f.At.Items,zo d y.Ann/\zL y.Ann<=4611686018427387904:=λt ht=>by
   obtain ⟨h1,h2⟩:=zRX h ht;refine ⟨h1,λf hf=> ?_⟩
   obtain ⟨h3,h4,h5⟩:=h2 f hf;have h6:=z7z ht hf;exact ⟨h3,λy hy=>⟨h4 y hy,by have:=zbcY hy; omega⟩,λy hy=>⟨h5 y hy,by have:=zbch hy; omega⟩⟩
  constructor
  ·rw [zWf];unfold zwx zII
   have h1:=zbkf (zmJ n) a h.1 (λt ht=>⟨(hsub t ht).1,λf hf=>⟨((hsub t ht).2 f hf).1,λy hy=>(hg y (((hsub t ht).2 f hf).2.1 y hy).1 (((hsub t ht).2 f hf).2.1 y hy).2).1,λy hy=>(hg _ (((hsub t ht).2 f hf).2.2 y hy).1 (((hsub t ht).2 f hf).2.2 y hy).2).1⟩⟩)
    (Int.toNat 0+a.length+(Int.ofNat a.length).toNat +Int.toNat 0+1) 0 (by omega) (by omega)
   rw [show ((0:Nat):Int)=(0:Int) from rfl,Nat.zero_add] at h1
   rw [Wy.fin_bn,show Int.ofNat a.length=(a.length:Int) from rfl] at *
   rw [h1]; rfl
  ·rw [z6L];unfold zG0 zUz
   have h1:=zbit (zxa n) a h.1 (λt ht=>⟨(hsub t ht).1,λf hf=>⟨((hsub t ht).2 f hf).1,λy hy=>(hg y (((hsub t ht).2 f hf).2.1 y hy).1 (((hsub t ht).2 f hf).2.1 y hy).2).2,λy hy=>(hg _ (((hsub t ht).2 f hf).2.2 y hy).1 (((hsub t ht).2 f hf).2.2 y hy).2).2⟩⟩)
    (a.length+Int.toNat 0+Int.toNat 0+1+zb9 a) 0 (by omega) (by omega)
   rw [show ((0:Nat):Int)=(0:Int) from rfl,Nat.zero_add] at h1
   rw [Wy.fin_bn,h1]; rfl
mutual
def zpv:At->Nat
 | ⟨k,_,a,_,i,_,_⟩=>if k=0 then 0 else 1+max (zn5 a) (zmk i)
def zdJ:yD->Nat
 | []=>0
 | ⟨x,_⟩::r=>max (zpv x) (zdJ r)
def zbv:yC->Nat
 | []=>0
 | ⟨_,fs⟩::r=>max (zdJ fs) (zbv r)
def zn5:yA->Nat
 | []=>0
 | a::r=>max (zbv a) (zn5 r)
def zmk:yE->Nat
 | []=>0
 | ⟨_,a⟩::r=>max (zbv a) (zmk r)
end
theorem zGK (x:At):zpv x=if x.Kind=0 then 0 else 1+max (zn5 x.Ag) (zmk x.Items):=by cases x; rw [zpv]
theorem zko (f:Fc) (r:yD):zdJ (f::r)=max (zpv f.At) (zdJ r):=by cases f; rw [zdJ]
theorem zos (t:Term) (r:yC):zbv (t::r)=max (zdJ t.Fs) (zbv r):=by cases t; rw [zbv]
theorem zHy (a:yC) (r:yA):zn5 (a::r)=max (zbv a) (zn5 r):=by rw [zn5]
theorem zFb (w:Wd) (r:yE):zmk (w::r)=max (zbv w.Ann) (zmk r):=by cases w; rw [zmk]
theorem zSs:zn5 []=0:=by rw [zn5]
theorem zO3:zmk []=0:=by rw [zmk]
theorem zrv:zdJ []=0:=by rw [zdJ]
theorem zHD:zbv []=0:=by rw [zbv]
theorem zbeV (l:yA):∀ n:Nat,l.foldl (λs t=>max s (zbv t)) n=max n (zn5 l):=by
 induction l with
 | nil=>intro n; rw [zSs]; exact (Nat.max_zero n).symm
 | cons a r ih=>intro n; rw [List.foldl_cons,ih,zHy]; omega
theorem zbc6 (l:yE):∀ n:Nat,l.foldl (λs t=>max s (zbv t.Ann)) n=max n (zmk l):=by
 induction l with
 | nil=>intro n; rw [zO3]; exact (Nat.max_zero n).symm
 | cons a r ih=>intro n; rw [List.foldl_cons,ih,zFb]; omega
theorem zbcV (l:yA):∀ n:Nat,l.foldl (λs t=>max s (1+zbv t)) (1+n)=1+max n (zn5 l):=by
 induction l with
 | nil=>intro n; rw [zSs]; simp
 | cons a r ih=>intro n; rw [List.foldl_cons,show max (1+n) (1+zbv a)=1+max n (zbv a) by omega,ih,zHy]; omega
theorem zbct (l:yE):∀ n:Nat,l.foldl (λs t=>max s (1+zbv t.Ann)) (1+n)=1+max n (zmk l):=by
 induction l with
 | nil=>intro n; rw [zO3]; simp
 | cons a r ih=>intro n; rw [List.foldl_cons,show max (1+n) (1+zbv a.Ann)=1+max n (zbv a.Ann) by omega,ih,zFb]; omega
theorem zW0 (l:yD):∀ n:Nat,l.foldl (λs t=>max s (zpv t.At)) n=max n (zdJ l):=by
 induction l with
 | nil=>intro n; rw [zrv]; exact (Nat.max_zero n).symm
 | cons a r ih=>intro n; rw [List.foldl_cons,ih,zko]; omega
theorem z87 (l:yC):∀ n:Nat,l.foldl (λs t=>max s (zdJ t.Fs)) n=max n (zbv l):=by
 induction l with
 | nil=>intro n; rw [zHD]; exact (Nat.max_zero n).symm
 | cons a r ih=>intro n; rw [List.foldl_cons,ih,zos]; omega
theorem z1u (a b:Nat):(if (a:Int)>(b:Int) then (a:Int) else (b:Int))=((max b a:Nat):Int):=by split <;>omega
theorem z5P {d:Nat}:∀ l:yA,(∀ y∈l,zbv y<=d)->zn5 l<=d:=λl=>by
 induction l with
 | nil=>intro _; rw [zSs]; omega
 | cons y r ih=>intro hy; rw [zHy]; have h1:=hy y (by simp); have h2:=ih λz hz=>hy z (by simp [hz]); omega
theorem z3F {d:Nat}:∀ l:yE,(∀ y∈l,zbv y.Ann<=d)->zmk l<=d:=λl=>by
 induction l with
 | nil=>intro _; rw [zO3]; omega
 | cons y r ih=>intro hy; rw [zFb]; have h1:=hy y (by simp); have h2:=ih λz hz=>hy z (by simp [hz]); omega
theorem zbab {d:Nat}:∀ l:yD,(∀ y∈l,zpv y.At<=d)->zdJ l<=d:=λl=>by
 induction l with
 | nil=>intro _; rw [zrv]; omega
 | cons y r ih=>intro hy; rw [zko]; have h1:=hy y (by simp); have h2:=ih λz hz=>hy z (by simp [hz]); omega
theorem zbfv {d:Nat}:∀ l:yC,(∀ y∈l,zdJ y.Fs<=d)->zbv l<=d:=λl=>by
 induction l with
 | nil=>intro _; rw [zHD]; omega
 | cons y r ih=>intro hy; rw [zos]; have h1:=hy y (by simp); have h2:=ih λz hz=>hy z (by simp [hz]); omega
theorem zWJ:∀ (d:Nat) (a:yC),zo d a->zbv a<=d
 | 0,a,h=>h.elim
 | d+1,a,h=>zbfv a λt ht=>zbab _ λf hf=>by
  obtain ⟨_,h2⟩:=zRX h ht;obtain ⟨_,h4,h5⟩:=h2 f hf;have q1:=z5P f.At.Ag λy hy=>zWJ d y (h4 y hy)
  have q2:=z3F f.At.Items λy hy=>zWJ d y.Ann (h5 y hy)
  rw [zGK]; split <;>omega
section
variable (g:yC->Bool×Int)
theorem zbjZ (l:yA) (hl:l.length<=1000000) (hg:∀ y∈l,g y=(true,(zbv y:Int))) (nn:Int) (t13:yC) (t14 t15:Int) (t20:yD) (t21 t22:Int) (f:Fc) (fuel n:Nat) (hf:l.length<fuel):
  zCH g fuel nn n t13 t14 t15 t20 t21 t22 l l.length 0 f=(true,(nn,((max n (zn5 l):Nat):Int),t13,t14,t15,t20,t21,t22,f)):=by
 have h:=zdk (W:=zsP g) (z:=default) (l:=l) (λi (n:Nat)=>(nn,(),(n:Int),t13,t14,t15,t20,t21,t22,l,(l.length:Int),(i:Int),())) (λ_ _=>(f,())) (λy n=>.inl (max n (zbv y))) (λn=>(nn,(n:Int),t13,t14,t15,t20,t21,t22,f)) (λi n=>True)
  (λi n hi hI=>.inl ⟨_,rfl,trivial,λH K D=>by
   show (ziI g nn n t13 t14 t15 t20 t21 t22 l l.length i f).ev H K D=_;unfold ziI;simp only [Wy.ev_i,Wy.ev_k,Wy.ev_h,Wy.ev_bn,Wy.ev_d,tT,hi,hg _ (zp hi),z1u];rw [zhq (by omega)]⟩)
  (λn hI H K D=>by
   show (ziI g nn n t13 t14 t15 t20 t21 t22 l l.length l.length f).ev H K D=_;unfold ziI;simp only [Wy.ev_i,Wy.ev_k,tT,Nat.lt_irrefl]) fuel 0 n (by omega) (Nat.zero_le _) trivial
 rw [List.drop_zero,zdl,zbeV] at h;exact h
theorem zbkd (l:yE) (hl:l.length<=1000000) (hg:∀ y∈l,g y.Ann=(true,(zbv y.Ann:Int))) (nn:Int) (t13:yC) (t14 t15:Int) (t20:yD) (t21 t22:Int) (fuel n:Nat) (hf:l.length<fuel):
  zCN g fuel nn n t13 t14 t15 t20 t21 t22 l l.length 0=(true,(nn,((max n (zmk l):Nat):Int),t13,t14,t15,t20,t21,t22)):=by
 have h:=zdk (W:=zsk g) (z:=default) (l:=l) (λi (n:Nat)=>(nn,(n:Int),t13,t14,t15,t20,t21,t22,l,(l.length:Int),(i:Int),())) (λ_ _=>()) (λy n=>.inl (max n (zbv y.Ann))) (λn=>(nn,(n:Int),t13,t14,t15,t20,t21,t22)) (λi n=>True)
  (λi n hi hI=>.inl ⟨_,rfl,trivial,λH K D=>by
   show (ziV g nn n t13 t14 t15 t20 t21 t22 l l.length i).ev H K D=_;unfold ziV;simp only [Wy.ev_i,Wy.ev_k,Wy.ev_h,Wy.ev_bn,Wy.ev_d,tT,hi,hg _ (zp hi),z1u];rw [zhq (by omega)]⟩)
  (λn hI H K D=>by
   show (ziV g nn n t13 t14 t15 t20 t21 t22 l l.length l.length).ev H K D=_;unfold ziV;simp only [Wy.ev_i,Wy.ev_k,tT,Nat.lt_irrefl]) fuel 0 n (by omega) (Nat.zero_le _) trivial
 rw [List.drop_zero,zdl,zbc6] at h;exact h
def zVw (x:At):Prop:=(x.Ag.length<=1000000/\x.Items.length<=1000000)/\(zpv x<=1000/\(∀ y∈x.Ag,zbv y<=1000)/\∀ y∈x.Items,zbv y.Ann<=1000)/\(∀ y∈x.Ag,g y=(true,(zbv y:Int)))/\∀ y∈x.Items,g y.Ann=(true,(zbv y.Ann:Int))
theorem zbkU (l:yD) (hl:l.length<=1000000) (hg:∀ f∈l,zVw g f.At) (t13:yC) (t14 t15:Int) (fuel n:Nat) (hf:l.length<fuel):
  zDZ g fuel n t13 t14 t15 l l.length 0=(true,(((max n (zdJ l):Nat):Int),t13,t14,t15)):=by
 have h:=zdk (W:=ztP g) (z:=default) (l:=l) (λi (n:Nat)=>((n:Int),t13,t14,t15,l,(l.length:Int),(i:Int),())) (λ_ _=>()) (λy n=>.inl (max n (zpv y.At))) (λn=>((n:Int),t13,t14,t15)) (λi n=>True)
  (λi n hi hI=>.inl ⟨_,rfl,trivial,λH K D=>by
   obtain ⟨⟨h1,h2⟩,⟨h5,_,_⟩,h3,h4⟩:=hg _ (zp hi);show (zjO g n t13 t14 t15 l l.length i).ev H K D=_;unfold zjO;simp only [Wy.ev_i,Wy.ev_k,Wy.ev_h,Wy.ev_bn,Wy.ev_d,tT,hi,At.eta];generalize l.getD i default=f at *;rw [zGK] at h5 ⊢;by_cases hk:f.At.Kind=0
   ·have e:(f.At.Kind==0)=true:=by simp [hk]
    simp only [e,cond_true];rw [if_pos hk,Nat.max_zero,zhq (by omega)]
   ·have e:(f.At.Kind==0)=false:=by simp [hk]
    simp only [e,cond_false];rw [if_neg hk] at h5 ⊢;have q:=λfuel hf=>zbjZ g _ h1 h3 n t13 t14 t15 l l.length i f fuel 0 hf
    rw [Nat.zero_max,show ((0:Nat):Int)=(0:Int) from rfl] at q
    rw [q _ (by omega)]
    simp only [cond_true,Int.toNat_natCast];rw [zbkd g _ h2 h4 n t13 t14 t15 l l.length i _ _ (by omega)]
    simp only [cond_true];rw [zhq (by omega),show (1:Int)=((1:Nat):Int) from rfl,zpX (n:=1) (by omega),z1u]⟩)
  (λn hI H K D=>by
   show (zjO g n t13 t14 t15 l l.length l.length).ev H K D=_;unfold zjO;simp only [Wy.ev_i,Wy.ev_k,tT,Nat.lt_irrefl]) fuel 0 n (by omega) (Nat.zero_le _) trivial
 rw [List.drop_zero,zdl,zW0] at h;exact h
theorem zbk8 (l:yC) (hl:l.length<=1000000) (hg:∀ t∈l,t.Fs.length<=1000000/\∀ f∈t.Fs,zVw g f.At) (fuel n:Nat) (hf:l.length<fuel):
  zDO g fuel n l l.length 0=(true,((max n (zbv l):Nat):Int)):=by
 have h:=zdk (W:=ztK g) (z:=default) (l:=l) (λi (n:Nat)=>((n:Int),l,(l.length:Int),(i:Int),())) (λ_ _=>()) (λy n=>.inl (max n (zdJ y.Fs))) (λn=>(n:Int)) (λi n=>True)
  (λi n hi hI=>.inl ⟨_,rfl,trivial,λH K D=>by
   obtain ⟨h1,h3⟩:=hg _ (zp hi);show (zjX g n l l.length i).ev H K D=_;unfold zjX;simp only [Wy.ev_i,Wy.ev_k,Wy.ev_h,Wy.ev_bn,Wy.ev_d,tT,hi,At.eta];rw [zbkU g _ h1 h3 _ _ _ _ _ (by omega)]
   simp only [cond_true];rw [zhq (by omega)]⟩)
  (λn hI H K D=>by
   show (zjX g n l l.length l.length).ev H K D=_;unfold zjX;simp only [Wy.ev_i,Wy.ev_k,tT,Nat.lt_irrefl]) fuel 0 n (by omega) (Nat.zero_le _) trivial
 rw [List.drop_zero,zdl,z87] at h;exact h
theorem zbjc (x:At) (hx:zVw g x) (a:yC) (most i k:Int) (fuel n:Nat) (hf:x.Ag.length<fuel):
  zA7 g fuel a most i k ((1+n:Nat):Int) 0 x=(true,(a,most,i,k,((1+max n (zn5 x.Ag):Nat):Int),x)):=by
 obtain ⟨⟨h1,h2⟩,⟨h5,h6,h7⟩,h3,h4⟩:=hx
 have h:=zdk (W:=zA3 g) (z:=default) (l:=x.Ag) (λj (n:Nat)=>(a,most,i,k,(),(n:Int),(j:Int),())) (λ_ _=>(x,())) (λy n=>.inl (max n (1+zbv y))) (λn=>(a,most,i,k,(n:Int),x)) (λi n=>True)
  (λj n hi hI=>.inl ⟨_,rfl,trivial,λH K D=>by
   have h8:=h6 _ (zp hi);show (zny g a most i k n j x).ev H K D=_;unfold zny;simp only [Wy.ev_i,Wy.ev_k,Wy.ev_h,Wy.ev_bn,Wy.ev_d,tT,hi,h3 _ (zp hi)];rw [zhq (by omega),show (1:Int)=((1:Nat):Int) from rfl,zpX (n:=1) (by omega),z1u]⟩)
  (λn hI H K D=>by
   show (zny g a most i k n x.Ag.length x).ev H K D=_;unfold zny;simp only [Wy.ev_i,Wy.ev_k,tT,Nat.lt_irrefl]) fuel 0 (1+n) (by omega) (Nat.zero_le _) trivial
 rw [List.drop_zero,zdl,zbcV] at h;exact h
theorem zbio (x:At) (hx:zVw g x) (a:yC) (most i k:Int) (fuel n:Nat) (hf:x.Items.length<fuel):
  zIG g fuel a most i k ((1+n:Nat):Int) 0 x=(true,(a,most,i,k,((1+max n (zmk x.Items):Nat):Int))):=by
 obtain ⟨⟨h1,h2⟩,⟨h5,h6,h7⟩,h3,h4⟩:=hx
 have h:=zdk (W:=zA0 g) (z:=default) (l:=x.Items) (λj (n:Nat)=>(a,most,i,k,(),(n:Int),(j:Int),())) (λ_ _=>(x,())) (λy n=>.inl (max n (1+zbv y.Ann))) (λn=>(a,most,i,k,(n:Int))) (λi n=>True)
  (λj n hi hI=>.inl ⟨_,rfl,trivial,λH K D=>by
   have h8:=h7 _ (zp hi);show (znL g a most i k n j x).ev H K D=_;unfold znL;simp only [Wy.ev_i,Wy.ev_k,Wy.ev_h,Wy.ev_bn,Wy.ev_d,tT,hi,h4 _ (zp hi)];rw [zhq (by omega),show (1:Int)=((1:Nat):Int) from rfl,zpX (n:=1) (by omega),z1u]⟩)
  (λn hI H K D=>by
   show (znL g a most i k n x.Items.length x).ev H K D=_;unfold znL;simp only [Wy.ev_i,Wy.ev_k,tT,Nat.lt_irrefl]) fuel 0 (1+n) (by omega) (Nat.zero_le _) trivial
 rw [List.drop_zero,zdl,zbct] at h;exact h
theorem RNes_12' (x:At) (hx:zVw g x) (a:yC) (most i k:Int) (fuel:Nat) (hf:x.Ag.length<fuel):zA7 g fuel a most i k 1 0 x=(true,(a,most,i,k,((1+zn5 x.Ag:Nat):Int),x)):=by
 have h:=zbjc g x hx a most i k fuel 0 hf;rw [Nat.zero_max] at h; exact h
theorem zbkO (a:yC) (i:Nat) (hi:i<a.length) (hla:a.length<=1000000) (l:yD) (el:(a.getD i default).Fs=l) (hl:l.length<=1000000) (hg:∀ f∈l,zVw g f.At) (fuel n:Nat) (hf:l.length<fuel):
  zKJ g fuel a n i 0=(true,(a,((max n (zdJ l):Nat):Int),(i:Int))):=by
 have h:=zdk (W:=zC9 g) (z:=default) (l:=l) (λk (n:Nat)=>(a,(n:Int),(i:Int),(k:Int),())) (λ_ _=>()) (λy n=>.inl (max n (zpv y.At))) (λn=>(a,(n:Int),(i:Int))) (λk n=>True)
  (λk n hk hI=>.inl ⟨_,rfl,trivial,λH K D=>by
   have hx:=hg _ (zp hk);have h5:=hx.2.1.1;show (zox g a n i k).ev H K D=_;unfold zox;simp only [Wy.ev_i,Wy.ev_k,Wy.ev_h,Wy.ev_bn,Wy.ev_d,tT,hi,el,hk,At.eta];generalize l.getD k default=f at *;rw [zGK] at h5 ⊢;by_cases hz:f.At.Kind=0
   ·have e:(f.At.Kind==0)=true:=by simp [hz]
    simp only [e,cond_true];rw [if_pos hz,Nat.max_zero,zhq (by omega)]
   ·have e:(f.At.Kind==0)=false:=by simp [hz]
    have hx1:=hx.1;simp only [e,cond_false];rw [if_neg hz] at h5 ⊢;rw [RNes_12' g _ hx _ _ _ _ _ (by omega)]
    simp only [cond_true,Int.toNat_natCast,At.eta];rw [zbio g _ hx _ _ _ _ _ _ (by omega)]
    simp only [cond_true];rw [zhq (by omega),z1u]⟩)
  (λn hI H K D=>by
   show (zox g a n i l.length).ev H K D=_;unfold zox;simp only [Wy.ev_i,Wy.ev_k,tT,hi,el,Nat.lt_irrefl]) fuel 0 n (by omega) (Nat.zero_le _) trivial
 rw [List.drop_zero,zdl,zW0] at h;exact h
theorem zbjT (l:yC) (hl:l.length<=1000000) (hg:∀ t∈l,t.Fs.length<=1000000/\∀ f∈t.Fs,zVw g f.At) (fuel n:Nat) (hf:l.length<fuel):
  zKK g fuel l n 0=(true,((max n (zbv l):Nat):Int)):=by
 have h:=zdk (W:=zCO g) (z:=default) (l:=l) (λi (n:Nat)=>(l,(n:Int),(i:Int),())) (λ_ _=>()) (λy n=>.inl (max n (zdJ y.Fs))) (λn=>(n:Int)) (λi n=>True)
  (λi n hi hI=>.inl ⟨_,rfl,trivial,λH K D=>by
   obtain ⟨h1,h3⟩:=hg _ (zp hi);have hz:=zPG l i hi;show (zo5 g l n i).ev H K D=_;unfold zo5;simp only [Wy.ev_i,Wy.ev_k,Wy.ev_h,Wy.ev_bn,Wy.ev_d,tT,hi,At.eta];rw [zbkO g l i hi hl _ rfl h1 h3 _ _ (by omega)]
   simp only [cond_true];rw [zhq (by omega)]⟩)
  (λn hI H K D=>by
   show (zo5 g l n l.length).ev H K D=_;unfold zo5;simp only [Wy.ev_i,Wy.ev_k,tT,Nat.lt_irrefl]) fuel 0 n (by omega) (Nat.zero_le _) trivial
 rw [List.drop_zero,zdl,z87] at h;exact h
end
theorem z8k:∀ (n d:Nat) (a:yC),zo d a->d<=n->d<=100->zg4 n a=(true,(zbv a:Int))/\zmE n a=(true,(zbv a:Int))
 | n,0,a,h,hd,hs=>h.elim
 | 0,d+1,a,h,hd,hs=>by omega
 | n+1,d+1,a,h,hd,hs=>by
  have hg:=λy (hy:zo d y)=>z8k n d y hy (by omega) (by omega)
  have hsub:∀ t∈a,t.Fs.length<=1000000/\∀ f∈t.Fs,zVw (zg4 n) f.At/\zVw (zmE n) f.At:=λt ht=>by
   obtain ⟨h1,h2⟩:=zRX h ht;refine ⟨h1,λf hf=> ?_⟩
   obtain ⟨h3,h4,h5⟩:=h2 f hf;have q1:∀ y∈f.At.Ag,zbv y<=d:=λy hy=>zWJ d y (h4 y hy)
   have q2:∀ y∈f.At.Items,zbv y.Ann<=d:=λy hy=>zWJ d y.Ann (h5 y hy)
   have q3:zpv f.At<=1000:=by
    have r1:=z5P _ q1; have r2:=z3F _ q2;rw [zGK]; split <;>omega
   have q4:zpv f.At<=1000/\(∀ y∈f.At.Ag,zbv y<=1000)/\∀ y∈f.At.Items,zbv y.Ann<=1000:=⟨q3,λy hy=>by have:=q1 y hy; omega,λy hy=>by have:=q2 y hy; omega⟩
   exact ⟨⟨h3,q4,λy hy=>(hg y (h4 y hy)).1,λy hy=>(hg _ (h5 y hy)).1⟩,⟨h3,q4,λy hy=>(hg y (h4 y hy)).2,λy hy=>(hg _ (h5 y hy)).2⟩⟩
  constructor
  ·rw [zQl];unfold zq3 zE4;have h1:=zbk8 (zg4 n) a h.1 (λt ht=>⟨(hsub t ht).1,λf hf=>((hsub t ht).2 f hf).1⟩) (Int.toNat 0+a.length+(Int.ofNat a.length).toNat +Int.toNat 0+1) 0 (by omega)
   rw [show ((0:Nat):Int)=(0:Int) from rfl,Nat.zero_max] at h1
   rw [Wy.fin_bn,show Int.ofNat a.length=(a.length:Int) from rfl] at *
   rw [h1]; rfl
  ·rw [zZo];unfold zA9 zMJ;have h1:=zbjT (zmE n) a h.1 (λt ht=>⟨(hsub t ht).1,λf hf=>((hsub t ht).2 f hf).2⟩) (a.length+Int.toNat 0+Int.toNat 0+1+zb9 a) 0 (by omega)
   rw [show ((0:Nat):Int)=(0:Int) from rfl,Nat.zero_max] at h1
   rw [Wy.fin_bn,h1]; rfl
theorem zCj (x y:Int):zeq x y=(true,zeK x y):=by
 unfold zeq zME zun zRr zeK;by_cases h1:x<y
 ·simp [h1,Wy.fin_i,Wy.fin_k]
 ·by_cases h2:y<x <;>simp [h1,h2,Wy.fin_i,Wy.fin_k]
theorem zzs (x y:Int):zj9 x y=(true,zeK x y):=by
 unfold zj9 zIA zpy zM1 zeK;by_cases h1:x<y
 ·simp [h1,Wy.fin_i,Wy.fin_k]
 ·by_cases h2:y<x <;>simp [h1,h2,Wy.fin_i,Wy.fin_k]
def zxn:List Int->Int
 | []=>0
 | x::r=>if x=0 then zxn r else x
theorem zbdz (l:List Int) (hl:l.length<=1000000):∀ (n i:Nat),l.length<i+n->i<=l.length->∃ r,zMi n 0 l l.length i=(true,r)/\(r=.inl (zxn (l.drop i))\/(r=.inr 0/\zxn (l.drop i)=0))
 | 0,i,h,h2=>by omega
 | n+1,i,h,h2=>by
  show ∃ r,(zLw 0 l l.length i).ev (λx y=>zMi n x.1 x.2.1 x.2.2.1 x.2.2.2.1) (λr=>(true,r)) (false,.inl default)=(true,r)/\_
  unfold zLw;by_cases hi:i<l.length
  ·simp only [Wy.ev_i,Wy.ev_k,Wy.ev_h,Int.ofNat_eq_natCast,zEM,zfL,decide_true,decide_false,Bool.and_self,Bool.true_and,Bool.and_true,cond_true,cond_false,Int.toNat_natCast,Bool.not_true,Bool.not_false,hi];obtain ⟨r,h1,h3⟩:=zbdz l hl n (i+1) (by omega) (by omega)
   rw [zbC hi,zN (by omega),h1]
   generalize l.getD i default=x;by_cases hx:x=0
   ·have e:(x != 0)=false:=by simp [hx]
    simp only [e,cond_false,zxn,hx,if_true];exact ⟨r,rfl,h3⟩
   ·have e:(x != 0)=true:=by simp [hx]
    simp only [e,cond_true,zxn,hx,if_false];exact ⟨_,rfl,.inl rfl⟩
  ·simp only [Wy.ev_i,Wy.ev_k,Wy.ev_h,Int.ofNat_eq_natCast,zEM,zfL,decide_true,decide_false,Bool.and_self,Bool.true_and,Bool.and_true,cond_true,cond_false,Int.toNat_natCast,Bool.not_true,Bool.not_false,hi,zdj hi];exact ⟨_,rfl,.inr ⟨rfl,rfl⟩⟩
theorem zzN (l:List Int) (hl:l.length<=1000000):zof l=(true,zxn l):=by
 unfold zof z0q;obtain ⟨r,h1,h2⟩:=zbdz l hl (Int.toNat 0+l.length+(Int.ofNat l.length).toNat +Int.toNat 0+1) 0 (by simp; omega) (by omega)
 rw [show ((0:Nat):Int)=(0:Int) from rfl] at h1
 rw [Wy.fin_bn,show Int.ofNat l.length=(l.length:Int) from rfl] at *
 rw [h1];rw [List.drop_zero] at h2;rcases h2 with rfl | ⟨rfl,h2⟩
 ·rfl
 ·rw [h2]; rfl
section
variable {α:Type}
def zA8 (c:α->α->Int):List α->List α->Int
 | [],[]=>0
 | [],_::_=> -1
 | _::_,[]=>1
 | x::a,y::b=>if c x y=0 then zA8 c a b else c x y
theorem zRD (e:α->TT) {c:α->α->Int}:∀ (a b:List α),(∀ x∈a,∀ y∈b,c x y=zbi (e x) (e y))->zA8 c a b=zbI (a.map e) (b.map e)
 | [],[],_=>by simp only [zA8,List.map,zbI]
 | [],_::_,_=>by simp only [zA8,List.map,zbI]
 | _::_,[],_=>by simp only [zA8,List.map,zbI]
 | x::a,y::b,h=>by
  simp only [zA8,List.map,zbI];rw [h x (by simp) y (by simp),zRD e a b λx hx y hy=>h x (by simp [hx]) y (by simp [hy])]
variable [Inhabited α]
def zbaP (g:α->α->Bool×Int) (s1:List α) (s2:List α) (t11:List α) (t12:Int) (t13:Int):Wy (List α×List α×Unit×List α×Int×Int×Unit) Unit (Int⊕(List α×List α)):=.i (decide (t13<t12)) (.i (decide ((0:Int)<=t13)&&decide (t13<Int.ofNat t11.length)) (.i (decide (t13≥Int.ofNat s2.length)) (.k (.inl (1:Int))) (.i (decide ((0:Int)<=t13)&&decide (t13<Int.ofNat s2.length)) (.bn (g (t11.getD t13.toNat default) (s2.getD t13.toNat default)) λr0=>.i (r0 != (0:Int)) (.k (.inl (r0))) (.h (s1,s2,(),t11,t12,(IntKind.i64.wrap (t13+(1:Int))),()) ())) .d)) .d) (.k (.inr (s1,s2)))
def zbfl (g:α->α->Bool×Int) (x:List α×List α×Unit×List α×Int×Int×Unit) (y:Unit):Wy (List α×List α×Unit×List α×Int×Int×Unit) Unit (Int⊕(List α×List α)):=zbaP g x.1 x.2.1 x.2.2.2.1 x.2.2.2.2.1 x.2.2.2.2.2.1
def zbek (g:α->α->Bool×Int) (n:Nat) (s1:List α) (s2:List α) (t11:List α) (t12:Int) (t13:Int):Bool×(Int⊕(List α×List α)):=zC (zbfl g) (.inl default) n (s1,s2,(),t11,t12,t13,()) ()
def CF (g:α->α->Bool×Int) (s1 s2:List α):Bool×Int:=(.bn (zbek g (s1.length+s2.length+s1.length+(Int.ofNat s1.length).toNat +Int.toNat (0:Int)+(1:Nat)) s1 s2 s1 (Int.ofNat s1.length) (0:Int)) λr2=>.i (isL r2) (.k (getL r2)) (.i (decide (Int.ofNat (getR r2).fst.length<Int.ofNat (getR r2).snd.length)) (.k (-1:Int)) (.k (0:Int))):Wy0 Int).fin default
theorem zbd4 (g:α->α->Bool×Int) (c:α->α->Int) (a b:List α) (ha:a.length<=1000000) (hg:∀ x∈a,∀ y∈b,g x y=(true,c x y)):∀ (n i:Nat),a.length<i+n->i<=a.length->i<=b.length->
  ∃ r,zbek g n a b a a.length i=(true,r)/\((r=.inl (zA8 c (a.drop i) (b.drop i)))\/(r=.inr (a,b)/\zA8 c (a.drop i) (b.drop i)=if a.length<b.length then -1 else 0))
 | 0,i,h,h2,h3=>by omega
 | n+1,i,h,h2,h3=>by
  show ∃ r,(zbaP g a b a a.length i).ev (λx y=>zbek g n x.1 x.2.1 x.2.2.2.1 x.2.2.2.2.1 x.2.2.2.2.2.1) (λr=>(true,r)) (false,.inl default)=(true,r)/\_
  unfold zbaP;by_cases hi:i<a.length
  ·by_cases hi':i<b.length
   ·have hg':¬ b.length<=i:=by omega
    simp only [Wy.ev_i,Wy.ev_k,Wy.ev_h,Wy.ev_bn,Wy.ev_d,Int.ofNat_eq_natCast,zEM,zfL,decide_true,decide_false,Bool.and_self,Bool.true_and,Bool.and_true,cond_true,cond_false,Int.toNat_natCast,Bool.not_true,Bool.not_false,hi,hi',zbgk,hg',hg _ (zp hi) _ (zp hi')];rw [zbC hi,zbC hi',zN (by omega)]
    simp only [zA8];generalize c (a.getD i default) (b.getD i default)=z;by_cases hx:z=0
    ·have e:(z != 0)=false:=by simp [hx]
     simp only [e,cond_false,hx,if_true];exact zbd4 g c a b ha hg n (i+1) (by omega) (by omega) (by omega)
    ·have e:(z != 0)=true:=by simp [hx]
     simp only [e,cond_true,hx,if_false];exact ⟨_,rfl,.inl rfl⟩
   ·have hg':b.length<=i:=by omega
    simp only [Wy.ev_i,Wy.ev_k,Wy.ev_h,Wy.ev_bn,Wy.ev_d,Int.ofNat_eq_natCast,zEM,zfL,decide_true,decide_false,Bool.and_self,Bool.true_and,Bool.and_true,cond_true,cond_false,Int.toNat_natCast,Bool.not_true,Bool.not_false,hi,zbgk,hg'];refine ⟨_,rfl,.inl ?_⟩;rw [zbC hi,zdj hi']; rfl
  ·simp only [Wy.ev_i,Wy.ev_k,Wy.ev_h,Wy.ev_bn,Wy.ev_d,Int.ofNat_eq_natCast,zEM,zfL,decide_true,decide_false,Bool.and_self,Bool.true_and,Bool.and_true,cond_true,cond_false,Int.toNat_natCast,Bool.not_true,Bool.not_false,hi];refine ⟨_,rfl,.inr ⟨rfl, ?_⟩⟩;rw [zdj hi];by_cases hi':i<b.length
   ·rw [zbC hi',if_pos (by omega)]; rfl
   ·rw [zdj hi',if_neg (by omega)]; rfl
theorem zbkX (g:α->α->Bool×Int) (c:α->α->Int) (a b:List α) (ha:a.length<=1000000) (hg:∀ x∈a,∀ y∈b,g x y=(true,c x y)):CF g a b=(true,zA8 c a b):=by
 unfold CF;obtain ⟨r,h1,h2⟩:=zbd4 g c a b ha hg (a.length+b.length+a.length+(Int.ofNat a.length).toNat +Int.toNat 0+1) 0 (by simp; omega) (by omega) (by omega)
 rw [show ((0:Nat):Int)=(0:Int) from rfl] at h1
 rw [Wy.fin_bn,show Int.ofNat a.length=(a.length:Int) from rfl] at *
 rw [h1];simp only [List.drop_zero] at h2;rcases h2 with rfl | ⟨rfl,h2⟩
 ·rfl
 ·rw [h2];simp only [Wy.fin_i,Wy.fin_k,Int.ofNat_eq_natCast,zEM,zfL,decide_true,decide_false,Bool.and_self,Bool.true_and,Bool.and_true,cond_true,cond_false,Int.toNat_natCast,Bool.not_true,Bool.not_false,isL,getR];by_cases h3:a.length<b.length <;>simp [h3]
end
theorem z1A {α:Type} [Inhabited α] (e:α->TT) (g:α->α->Bool×Int) (a b:List α) (ha:a.length<=1000000) (hg:∀ x∈a,∀ y∈b,g x y=(true,zbi (e x) (e y))):CF g a b=(true,zbI (a.map e) (b.map e)):=by
 rw [zbkX g (λx y=>zbi (e x) (e y)) a b ha hg,zRD e a b λ_ _ _ _=>rfl]
theorem Fc.eta2 (x:Fc):(FO.mk (At.mk x.At.Kind x.At.Row x.At.Ag x.At.Func x.At.Items x.At.Op x.At.Bd) x.Exp:Fc)=x:=by rw [At.eta]
theorem zbgM (g):zbV g=CF g:=rfl
theorem zbeN (g):zbD g=CF g:=by
 have h:zbU g=zbfl g:=by
  funext x y
  unfold zbU zex zbfl zbaP;rw [Fc.eta2,Fc.eta2]
 funext a b
 unfold zbD zeI zey;rw [h]; rfl
theorem zbjg (g):zbw g=CF g:=rfl
theorem zbhr (g):zbO g=CF g:=rfl
theorem zOW (a b:Value):zuo a b=(true,zbi (trV a) (trV b)):=by
 unfold zuo zRb;have h:(strings_Compare a.Text b.Text).2=zbi (trB a.Text) (trB b.Text):=by rw [<- zbdI]; rfl
 simp only [zCj,zzs,Wy.fin_bn,cond_true,h];rw [zzN _ (by simp)]
 simp only [Wy.fin_k,cond_true,trV,zbi,zbI,zxn];rfl
theorem zUG:∀ n,
  (∀ d a b,zo d a->10*d<=n->zgU n a b=(true,zbI (zdR a) (zdR b)))/\
  (∀ d a b,zo d a->10*d<=n+1->zbX n a b=(true,zbI (zdR a) (zdR b)))/\
  (∀ d x y,zcH (zo d) x.Fs->10*d+10<=n+2->zjP n x y=(true,zbi (zCK x) (zCK y)))/\
  (∀ d x y,zcH (zo d) x.Fs->10*d+10<=n+3->zh7 n x y=(true,zbI (zbu x.Fs) (zbu y.Fs)))/\
  (∀ d l l',zcH (zo d) l->10*d+10<=n+4->zb5 n l l'=(true,zbI (zbu l) (zbu l')))/\
  (∀ d x y,zdf (zo d) x.At->10*d+10<=n+5->zgM n x y=(true,zbi (ziK x) (ziK y)))/\
  (∀ d x y,zdf (zo d) x->10*d+10<=n+6->zh5 n x y=(true,zbi (zdZ x) (zdZ y)))/\
  (∀ d a b,a.length<=1000000->(∀ x∈a,zo d x)->10*d+10<=n+7->zby n a b=(true,zbI (zz7 a) (zz7 b)))/\
  (∀ d a b,a.length<=1000000->(∀ x∈a,zo d x.Ann)->10*d+10<=n+7->zbN n a b=(true,zbI (ziq a) (ziq b)))/\
  (∀ d x y,zo d x.Ann->10*d+10<=n+8->zfO n x y=(true,zbi (zba x) (zba y)))
 | 0=>by
  refine ⟨?_, ?_, ?_, ?_, ?_, ?_, ?_, ?_, ?_, ?_⟩
  ·intro d a b h hd; have:d=0:=by omega
   subst this; exact h.elim
  ·intro d a b h hd; have:d=0:=by omega
   subst this; exact h.elim
  all_goals (intros; omega)
 | n+1=>by
  obtain ⟨h1,h2,h3,h4,h5,h6,h7,h8,h9,h10⟩:=zUG n;refine ⟨?_, ?_, ?_, ?_, ?_, ?_, ?_, ?_, ?_, ?_⟩
  ·intro d a b h hd;rw [zQD];unfold zqF zEU;rw [Wy.fin_bn,h2 d a b h (by omega)]; rfl
  ·intro d a b h hd;cases d with
   | zero=>exact h.elim
   | succ d=>
    rw [zi8,zbgM,zKG,zKG];exact z1A zCK _ a b h.1 λx hx y hy=>h3 d x y (h.2 x hx) (by omega)
  ·intro d x y h hd;rw [zMd];unfold znj zBo;rw [Wy.fin_bn,h4 d x y h (by omega)]
   simp only [cond_true,Wy.fin_bn,zzs];rw [zzN _ (by simp)]
   obtain ⟨c,l⟩:=x; obtain ⟨c',l'⟩:=y;simp only [cond_true,Wy.fin_k,zxn,zCK,zbi,zbI];rfl
  ·intro d x y h hd;rw [zJc];unfold zlD zyI;rw [Wy.fin_bn,h5 d _ _ h (by omega)]; rfl
  ·intro d l l' h hd;rw [zjK,zbeN,zAc,zAc];exact z1A ziK _ l l' h.1 λx hx y hy=>h6 d x y (h.2 x hx) (by omega)
  ·intro d x y h hd;rw [zHk];unfold zkh zwd;rw [At.eta,At.eta,Wy.fin_bn,h7 d _ _ h (by omega)]
   simp only [cond_true,Wy.fin_bn,zCj];rw [zzN _ (by simp)]
   obtain ⟨c,l⟩:=x; obtain ⟨c',l'⟩:=y;simp only [cond_true,Wy.fin_k,zxn,ziK,zbi,zbI];rfl
  ·intro d x y h hd;rw [zJK];unfold zlA zyD;simp only [cond_true,Wy.fin_bn,zCj,zOW,h8 d x.Ag y.Ag h.1.1 h.2.1 (by omega),h9 d x.Items y.Items h.1.2.1 (λw hw=>(h.2.2 w hw).2) (by omega)]
   rw [zzN _ (by simp)]
   obtain ⟨k,r,a,f,i,o,v⟩:=x; obtain ⟨k',r',a',f',i',o',v'⟩:=y;simp only [cond_true,Wy.fin_k,zxn,zdZ,zbi,zbI];rfl
  ·intro d a b h0 h hd;rw [zf5,zbjg,zHg,zHg];exact z1A (λx=>TT.l (zdR x)) _ a b h0 λx hx y hy=>by rw [h1 d x y (h x hx) (by omega)]; simp only [zbi]
  ·intro d a b h0 h hd;rw [zhw,zbhr,zol,zol];exact z1A zba _ a b h0 λx hx y hy=>h10 d x y (h x hx) (by omega)
  ·intro d x y h hd;rw [zIU];unfold zlJ zyJ;simp only [cond_true,Wy.fin_bn,zOW,h1 d _ _ h (by omega)]
   rw [zzN _ (by simp)]
   obtain ⟨c,l⟩:=x; obtain ⟨c',l'⟩:=y;simp only [cond_true,Wy.fin_k,zxn,zba,zbi,zbI];rfl
theorem zTV {d:Nat} {a:yC} (h:zo d a) (hd:d<=100) (b:yC):zCY a b=(true,zbI (zdR a) (zdR b)):=(zUG 1000).1 d a b h (by omega)
theorem zAv {d:Nat} {x:Term} (h:zcH (zo d) x.Fs) (hd:d<=99) (y:Term):zcb x y=(true,zbI (zbu x.Fs) (zbu y.Fs)):=(zUG 1000).2.2.2.1 d x y h (by omega)
theorem zAa {d:Nat} {x:At} (h:zdf (zo d) x) (hd:d<=99) (y:At):zjY x y=(true,zbi (zdZ x) (zdZ y)):=(zUG 1000).2.2.2.2.2.2.1 d x y h (by omega)
theorem zcT {d:Nat} {x:Wd} (h:zo d x.Ann) (hd:d<=99) (y:Wd):zbQ x y=(true,zbi (zba x) (zba y)):=(zUG 1000).2.2.2.2.2.2.2.2.2 d x y h (by omega)
theorem znC {d:Nat} {a:yC} (h:zo d a) (hd:d<=100) (b:yC):ze7 a b=(true,decide (a=b)):=by
 unfold ze7 zKr;rw [Wy.fin_bn,zTV h hd];simp only [cond_true,Wy.fin_k];congr 1;by_cases e:a=b
 ·subst e; rw [z0Q]; simp
 ·have:zbI (zdR a) (zdR b)≠0:=λh=>e (zK3 _ _ (zN6 _ _ h))
  simp [e,this]
theorem z3V (s:ByteArray):∀ (n i:Nat) (r:List UInt8),s.size<=i+n->ByteArray.toList.loop s i r=r.reverse++s.data.toList.drop i
 | 0,i,r,h=>by
  rw [ByteArray.toList.loop,if_neg (by omega),List.drop_eq_nil_of_le (by rw [<- Lib.size_eq]; omega),List.append_nil]
 | n+1,i,r,h=>by
  rw [ByteArray.toList.loop];by_cases hi:i<s.size
  ·have hi':i<s.data.toList.length:=by rw [<- Lib.size_eq]; exact hi
   rw [if_pos hi,z3V s n (i+1) _ (by omega),List.drop_eq_getElem_cons hi',List.reverse_cons,List.append_assoc]
   congr 1
   have:s.get! i=s.data.toList[i]:=by
    have h':i<s.data.size:=hi;show s.data[i]! =s.data.toList[i];rw [getElem!_pos s.data i h']; rfl
   rw [this]; rfl
  ·rw [if_neg hi,List.drop_eq_nil_of_le (by rw [<- Lib.size_eq]; omega),List.append_nil]
theorem toList_eq (s:ByteArray):s.toList=s.data.toList:=by
 rw [ByteArray.toList,z3V s s.size 0 [] (by omega)]; rfl
theorem zKn {s t:ByteArray} (h:s.data.toList=t.data.toList):s=t:=by
 cases s; cases t;congr 1;exact Array.toList_inj.1 h
theorem zbeC (s t:ByteArray):(s.toList==t.toList)=decide (s.data.toList=t.data.toList):=by
 rw [toList_eq,toList_eq];cases hb:(s.data.toList==t.data.toList) with
 | true=>rw [decide_eq_true (beq_iff_eq.1 hb)]
 | false=>rw [decide_eq_false (λh=>by rw [beq_iff_eq.2 h] at hb; cases hb)]
theorem zZL (s t:ByteArray):(s.toList==t.toList)=decide (s=t):=by
 rw [zbeC];by_cases h:s=t
 ·rw [decide_eq_true h,decide_eq_true (by rw [h])]
 ·rw [decide_eq_false h,decide_eq_false λe=>h (zKn e)]
theorem zA4 (z w:Int):(z != w)= !decide (z=w):=by by_cases h:z=w <;>simp [h]
theorem zXa:∀ a b:List UInt8,Op.bytesLess a b=decide (Lib.compareBytes a b<0)
 | [],[]=>by simp [Op.bytesLess,Lib.compareBytes]
 | _::_,[]=>by simp [Op.bytesLess,Lib.compareBytes]
 | [],_::_=>by simp [Op.bytesLess,Lib.compareBytes]
 | x::a,y::b=>by
  simp only [Op.bytesLess,Lib.compareBytes];by_cases p:x<y
  ·simp [p]
  ·by_cases q:y<x
   ·have hne:¬ x=y:=λe=>by subst e; exact p q
    simp [p,q,hne]
   ·have he:x=y:=UInt8.toNat_inj.1 (by rw [UInt8.lt_iff_toNat_lt] at p q; omega)
    subst he;simp [p,zXa a b]
theorem zPI (a b:Value):zpQ a b=(true,zbi (trV a) (trV b)):=by
 unfold zpQ zRC zDE zZk;rw [zZL,toList_eq,toList_eq,zXa,zbdI];simp only [trV,zbi,zbI,zeK];simp only [Wy.fin_i,Wy.fin_bn,Wy.fin_k,cond_true,zA4];by_cases h1:a.Kind=b.Kind
 ·by_cases h2:a.Int=b.Int
  ·by_cases h3:a.Text=b.Text
   ·simp [h1,h2,h3,zLa]
   ·have h4:zbi (trB a.Text) (trB b.Text)≠0:=λe=>by
     have:=zMB _ _ (TT.l.inj (zxe _ _ e));exact h3 (zKn this)
    have h5:=zbcu (trB a.Text) (trB b.Text);simp only [trB,zbi] at h4 h5;simp only [trB,zbi];rcases h5 with h5 | h5 | h5
    ·simp [h1,h2,h3,h5]
    ·exact absurd h5 h4
    ·simp [h1,h2,h3,h5]
  ·by_cases h3:a.Int<b.Int
   ·simp [h1,h2,h3]
   ·simp [h1,h2,h3,show b.Int<a.Int by omega]
 ·by_cases h3:a.Kind<b.Kind
  ·simp [h1,h3]
  ·simp [h1,h3,show b.Kind<a.Kind by omega]
theorem zpk (x y:Int):zdb x y=(true,zeK x y):=by
 unfold zdb zTn zeK;by_cases h1:x<y
 ·simp [h1,Wy.fin_i,Wy.fin_k]
 ·by_cases h2:y<x <;>simp [h1,h2,Wy.fin_i,Wy.fin_k]
theorem zX3 (x y:RowID):znM x y=(true,if zeK x.Table y.Table=0 then zeK x.Seq y.Seq else zeK x.Table y.Table):=by
 unfold znM zLf;simp only [zpk,Wy.fin_i,Wy.fin_bn,Wy.fin_k,cond_true,zA4];by_cases h:zeK x.Table y.Table=0
 ·simp [h]
 ·simp [h]
section
variable {α:Type} [Inhabited α]
def zbaT (p q:α->α->Bool×Int) (a:List α) (b:List α) (i:Int):Wy (List α×List α×Int×Unit) Unit (Int⊕(List α×List α)):=.i (decide (i<Int.ofNat a.length)) (.i (decide (i<Int.ofNat b.length)) (.i (decide ((0:Int)<=i)&&decide (i<Int.ofNat a.length)) (.i (decide ((0:Int)<=i)&&decide (i<Int.ofNat b.length)) (.bn (p (a.getD i.toNat default) (b.getD i.toNat default)) λr1=>.i (r1 != (0:Int)) (.k (.inl (r1))) (.i (decide ((0:Int)<=i)&&decide (i<Int.ofNat a.length)) (.i (decide ((0:Int)<=i)&&decide (i<Int.ofNat b.length)) (.bn (q (a.getD i.toNat default) (b.getD i.toNat default)) λr0=>.i (r0 != (0:Int)) (.k (.inl (r0))) (.h (a,b,(IntKind.i64.wrap (i+(1:Int))),()) ())) .d) .d)) .d) .d) (.k (.inr (a,b)))) (.k (.inr (a,b)))
def zbfj (p q:α->α->Bool×Int) (x:List α×List α×Int×Unit) (y:Unit):Wy (List α×List α×Int×Unit) Unit (Int⊕(List α×List α)):=zbaT p q x.1 x.2.1 x.2.2.1
def zbeE (p q:α->α->Bool×Int) (n:Nat) (a:List α) (b:List α) (i:Int):Bool×(Int⊕(List α×List α)):=zC (zbfj p q) (.inl default) n (a,b,i,()) ()
def RG (p q:α->α->Bool×Int) (a b:List α):Bool×Int:=(.bn (zbeE p q (a.length+b.length+Int.toNat (0:Int)+(1:Nat)) a b (0:Int)) λr5=>.i (isL r5) (.k (getL r5)) (.bn (zdb (Int.ofNat (getR r5).fst.length) (Int.ofNat (getR r5).snd.length)) λr4=>.k r4):Wy0 Int).fin default
theorem zbdB (p q:α->α->Bool×Int) (c1 c2:α->α->Int) (a b:List α) (ha:a.length<=1000000) (hp:∀ x∈a,∀ y∈b,p x y=(true,c1 x y)) (hq:∀ x∈a,∀ y∈b,q x y=(true,c2 x y)):∀ (n i:Nat),a.length<i+n->i<=a.length->i<=b.length->
  ∃ r,zbeE p q n a b i=(true,r)/\((r=.inl (zA8 (λx y=>if c1 x y=0 then c2 x y else c1 x y) (a.drop i) (b.drop i)))\/(r=.inr (a,b)/\zA8 (λx y=>if c1 x y=0 then c2 x y else c1 x y) (a.drop i) (b.drop i)=zeK a.length b.length))
 | 0,i,h,h2,h3=>by omega
 | n+1,i,h,h2,h3=>by
  show ∃ r,(zbaT p q a b i).ev (λx y=>zbeE p q n x.1 x.2.1 x.2.2.1) (λr=>(true,r)) (false,.inl default)=(true,r)/\_
  unfold zbaT;by_cases hi:i<a.length
  ·by_cases hi':i<b.length
   ·simp only [Wy.ev_i,Wy.ev_k,Wy.ev_h,Wy.ev_bn,Wy.ev_d,tT,hi,hi',hp _ (zp hi) _ (zp hi'),hq _ (zp hi) _ (zp hi')];rw [zbC hi,zbC hi',zN (by omega)]
    simp only [zA8];generalize c1 (a.getD i default) (b.getD i default)=z1;generalize c2 (a.getD i default) (b.getD i default)=z2;by_cases hx:z1=0
    ·have e:(z1 != 0)=false:=by simp [hx]
     by_cases hx2:z2=0
     ·have e2:(z2 != 0)=false:=by simp [hx2]
      simp only [e,e2,cond_false,hx,hx2,if_true];exact zbdB p q c1 c2 a b ha hp hq n (i+1) (by omega) (by omega) (by omega)
     ·have e2:(z2 != 0)=true:=by simp [hx2]
      simp only [e,e2,cond_false,cond_true,hx,hx2,if_true,if_false];exact ⟨_,rfl,.inl rfl⟩
    ·have e:(z1 != 0)=true:=by simp [hx]
     simp only [e,cond_true,hx,if_false];exact ⟨_,rfl,.inl rfl⟩
   ·simp only [Wy.ev_i,Wy.ev_k,Wy.ev_h,Wy.ev_bn,Wy.ev_d,tT,hi,hi'];refine ⟨_,rfl,.inr ⟨rfl, ?_⟩⟩;rw [zbC hi,zdj hi'];unfold zeK; rw [if_neg (by omega),if_pos (by omega)]; rfl
  ·simp only [Wy.ev_i,Wy.ev_k,Wy.ev_h,Wy.ev_bn,Wy.ev_d,tT,hi];refine ⟨_,rfl,.inr ⟨rfl, ?_⟩⟩;rw [zdj hi];by_cases hi':i<b.length
   ·rw [zbC hi']; unfold zeK; rw [if_pos (by omega)]; rfl
   ·rw [zdj hi']; unfold zeK; rw [if_neg (by omega),if_neg (by omega)]; rfl
theorem zblf (p q:α->α->Bool×Int) (c1 c2:α->α->Int) (a b:List α) (ha:a.length<=1000000) (hp:∀ x∈a,∀ y∈b,p x y=(true,c1 x y)) (hq:∀ x∈a,∀ y∈b,q x y=(true,c2 x y)):RG p q a b=(true,zA8 (λx y=>if c1 x y=0 then c2 x y else c1 x y) a b):=by
 unfold RG;obtain ⟨r,h1,h2⟩:=zbdB p q c1 c2 a b ha hp hq (a.length+b.length+Int.toNat 0+1) 0 (by simp; omega) (by omega) (by omega)
 rw [show ((0:Nat):Int)=(0:Int) from rfl] at h1
 rw [Wy.fin_bn,h1];simp only [List.drop_zero] at h2;rcases h2 with rfl | ⟨rfl,h2⟩
 ·rfl
 ·rw [h2];simp only [Wy.fin_i,Wy.fin_k,Wy.fin_bn,zpk,tT,isL,getR]
end
theorem z8a {α:Type} [Inhabited α] (e:α->TT) (p q:α->α->Bool×Int) (c1 c2:α->α->Int) (a b:List α) (ha:a.length<=1000000) (hp:∀ x∈a,∀ y∈b,p x y=(true,c1 x y)) (hq:∀ x∈a,∀ y∈b,q x y=(true,c2 x y))
  (hc:∀ x y,(if c1 x y=0 then c2 x y else c1 x y)=zbi (e x) (e y)):RG p q a b=(true,zbI (a.map e) (b.map e)):=by
 rw [zblf p q c1 c2 a b ha hp hq,zRD e a b λx _ y _=>hc x y]
theorem zbgQ (g):zBi g=RG (λx y=>g x.Fs y.Fs) (λx y=>zdb x.Cf y.Cf):=rfl
theorem zbez (g):zkH g=RG (λx y=>g x.At y.At) (λx y=>zdb x.Exp y.Exp):=by
 have h:zlG g=zbfj (λx y=>g x.At y.At) (λx y=>zdb x.Exp y.Exp):=by
  funext x y
  unfold zlG zBy zbfj zbaT;rw [At.eta,At.eta]
 funext a b
 unfold zkH zB6 zBv;rw [h]; rfl
theorem zbg7 (g):zqM g=RG (λx y=>zpQ x.Value y.Value) (λx y=>g x.Ann y.Ann):=rfl
theorem z9y (gI) (g:yC->yC->Bool×Int) (a b:At) (ha:a.Ag.length<=1000000) (hg:∀ x∈a.Ag,∀ y∈b.Ag,g x y=(true,zbI (zdR x) (zdR y))):∀ (n i:Nat),a.Ag.length<i+n->i<=a.Ag.length->i<=b.Ag.length->
  ∃ r,zvW g gI n i a b=(true,r)/\((r=.inl (zA8 (λx y=>zbI (zdR x) (zdR y)) (a.Ag.drop i) (b.Ag.drop i))/\zA8 (λx y=>zbI (zdR x) (zdR y)) (a.Ag.drop i) (b.Ag.drop i)≠0)\/(r=.inr (a,b)/\zA8 (λx y=>zbI (zdR x) (zdR y)) (a.Ag.drop i) (b.Ag.drop i)=zeK a.Ag.length b.Ag.length))
 | 0,i,h,h2,h3=>by omega
 | n+1,i,h,h2,h3=>by
  show ∃ r,(zv1 g gI i a b).ev (λx y=>zvW g gI n x.2.2.1 y.1 y.2.1) (λr=>(true,r)) (false,.inl default)=(true,r)/\_
  unfold zv1;by_cases hi:i<a.Ag.length
  ·by_cases hi':i<b.Ag.length
   ·simp only [Wy.ev_i,Wy.ev_k,Wy.ev_h,Wy.ev_bn,Wy.ev_d,tT,hi,hi',hg _ (zp hi) _ (zp hi')];rw [zbC hi,zbC hi',zN (by omega)]
    simp only [zA8];generalize zbI (zdR (a.Ag.getD i default)) (zdR (b.Ag.getD i default))=z1;by_cases hx:z1=0
    ·have e:(z1 != 0)=false:=by simp [hx]
     simp only [e,cond_false,hx,if_true];exact z9y gI g a b ha hg n (i+1) (by omega) (by omega) (by omega)
    ·have e:(z1 != 0)=true:=by simp [hx]
     simp only [e,cond_true,hx,if_false];exact ⟨_,rfl,.inl ⟨rfl,hx⟩⟩
   ·simp only [Wy.ev_i,Wy.ev_k,Wy.ev_h,Wy.ev_bn,Wy.ev_d,tT,hi,hi'];refine ⟨_,rfl,.inr ⟨rfl, ?_⟩⟩;rw [zbC hi,zdj hi'];unfold zeK; rw [if_neg (by omega),if_pos (by omega)]; rfl
  ·simp only [Wy.ev_i,Wy.ev_k,Wy.ev_h,Wy.ev_bn,Wy.ev_d,tT,hi];refine ⟨_,rfl,.inr ⟨rfl, ?_⟩⟩;rw [zdj hi];by_cases hi':i<b.Ag.length
   ·rw [zbC hi']; unfold zeK; rw [if_pos (by omega)]; rfl
   ·rw [zdj hi']; unfold zeK; rw [if_neg (by omega),if_neg (by omega)]; rfl
theorem zbiD (gI) (g:yC->yC->Bool×Int) (x y:At) (ha:x.Ag.length<=1000000) (hg:∀ a∈x.Ag,∀ b∈y.Ag,g a b=(true,zbI (zdR a) (zdR b)))
  (hI:gI x.Items y.Items=(true,zbI (ziq x.Items) (ziq y.Items))):znA g gI x y=(true,zbi (zdZ x) (zdZ y)):=by
 unfold znA zGh;rw [At.eta,At.eta];obtain ⟨r,h1,h2⟩:=z9y gI g x y ha hg (Int.toNat 0+x.Ag.length+x.Items.length+y.Ag.length+y.Items.length+1) 0 (by omega) (by omega) (by omega)
 rw [show ((0:Nat):Int)=(0:Int) from rfl] at h1
 simp only [List.drop_zero] at h2;rw [zRD (λa=>TT.l (zdR a)) x.Ag y.Ag (λa _ b _=>by simp only [zbi]), <- zHg, <- zHg] at h2
 simp only [zpk,zX3,Wy.fin_bn,Wy.fin_i,Wy.fin_k,cond_true,h1];obtain ⟨k,r0,a,f,i,o,v⟩:=x; obtain ⟨k',r',a',f',i',o',v'⟩:=y;simp only [zdZ,zbi,zbI,zA4] at *;by_cases e1:zeK k k'=0
 rotate_left
 ·simp [e1]
 by_cases e2:zeK r0.Table r'.Table=0
 rotate_left
 ·simp [e1,e2]
 by_cases e3:zeK r0.Seq r'.Seq=0
 rotate_left
 ·simp [e1,e2,e3]
 rcases h2 with ⟨rfl,h2⟩ | ⟨rfl,h2⟩
 ·simp [e1,e2,e3,h2,isL,getL]
 simp only [e1,e2,e3,h2,isL,getR,tT,hI,if_true];by_cases e4:zeK (a.length:Int) (a'.length:Int)=0
 rotate_left
 ·simp [e4]
 by_cases e5:zeK f f'=0
 rotate_left
 ·simp [e4,e5]
 by_cases e6:zbI (ziq i) (ziq i')=0
 rotate_left
 ·simp [e4,e5,e6]
 by_cases e7:zeK o o'=0
 rotate_left
 ·simp [e4,e5,e6,e7]
 simp [e4,e5,e6,e7,zPI]
theorem zOt:∀ n,
  (∀ d a b,zo d a->10*d<=n->zpq n a b=(true,zbI (zdR a) (zdR b)))/\
  (∀ d l l',zcH (zo d) l->10*d+10<=n+1->zkD n l l'=(true,zbI (zbu l) (zbu l')))/\
  (∀ d x y,zdf (zo d) x->10*d+10<=n+2->znF n x y=(true,zbi (zdZ x) (zdZ y)))/\
  (∀ d a b,a.length<=1000000->(∀ x∈a,zo d x.Ann)->10*d+10<=n+3->zmB n a b=(true,zbI (ziq a) (ziq b)))
 | 0=>by
  refine ⟨?_, ?_, ?_, ?_⟩
  ·intro d a b h hd; have:d=0:=by omega
   subst this; exact h.elim
  all_goals (intros; omega)
 | n+1=>by
  obtain ⟨h1,h2,h3,h4⟩:=zOt n;refine ⟨?_, ?_, ?_, ?_⟩
  ·intro d a b h hd;cases d with
   | zero=>exact h.elim
   | succ d=>
    rw [zZz,zbgQ,zKG,zKG]
    exact z8a zCK _ _ (λx y=>zbI (zbu x.Fs) (zbu y.Fs)) (λx y=>zeK x.Cf y.Cf) a b h.1 (λx hx y hy=>h2 d _ _ (h.2 x hx) (by omega)) (λx _ y _=>zpk _ _) λx y=>by
     obtain ⟨c,l⟩:=x; obtain ⟨c',l'⟩:=y;simp only [zCK,zbi,zbI];by_cases e:zeK c c'=0 <;>simp [e]
  ·intro d l l' h hd;rw [zNO,zbez,zAc,zAc]
   exact z8a ziK _ _ (λx y=>zbi (zdZ x.At) (zdZ y.At)) (λx y=>zeK x.Exp y.Exp) l l' h.1 (λx hx y hy=>h3 d _ _ (h.2 x hx) (by omega)) (λx _ y _=>zpk _ _) λx y=>by
    obtain ⟨c,l⟩:=x; obtain ⟨c',l'⟩:=y;simp only [ziK,zbi,zbI];by_cases e:zeK l l'=0 <;>simp [e]
  ·intro d x y h hd;rw [zSG];exact zbiD _ _ x y h.1.1 (λa ha b _=>h1 d a b (h.2.1 a ha) (by omega)) (h4 d _ _ h.1.2.1 (λw hw=>(h.2.2 w hw).2) (by omega))
  ·intro d a b h0 h hd;rw [zQr,zbg7,zol,zol]
   exact z8a zba _ _ (λx y=>zbi (trV x.Value) (trV y.Value)) (λx y=>zbI (zdR x.Ann) (zdR y.Ann)) a b h0 (λx _ y _=>zPI _ _) (λx hx y _=>h1 d _ _ (h x hx) (by omega)) λx y=>by
    obtain ⟨c,l⟩:=x; obtain ⟨c',l'⟩:=y;simp only [zba,zbi,zbI];by_cases e:zbI (zdR l) (zdR l')=0 <;>simp [e]
theorem z5c {d:Nat} {a:yC} (h:zo d a) (hd:d<=100) (b:yC):zLO a b=(true,zbI (zdR a) (zdR b)):=(zOt 1000).1 d a b h (by omega)
theorem znn {d:Nat} {l:yD} (h:zcH (zo d) l) (hd:d<=99) (l':yD):zjs l l'=(true,zbI (zbu l) (zbu l')):=(zOt 1000).2.1 d l l' h (by omega)
theorem zzf {d:Nat} {x:At} (h:zdf (zo d) x) (hd:d<=99) (y:At):zmM x y=(true,zbi (zdZ x) (zdZ y)):=(zOt 1000).2.2.1 d x y h (by omega)
theorem zFH {d:Nat} {a:yE} (h0:a.length<=1000000) (h:∀ x∈a,zo d x.Ann) (hd:d<=99) (b:yE):zuL a b=(true,zbI (ziq a) (ziq b)):=(zOt 1000).2.2.2 d a b h0 h (by omega)
theorem zMA {d:Nat} {a:yC} (h:zo d a) (hd:d<=100) (b:yC):zuv a b=(true,decide (a=b)):=by
 unfold zuv zZc;rw [Wy.fin_bn,z5c h hd];simp only [cond_true,Wy.fin_k];congr 1;by_cases e:a=b
 ·subst e; rw [z0Q]; simp
 ·have:zbI (zdR a) (zdR b)≠0:=λh=>e (zK3 _ _ (zN6 _ _ h))
  simp [e,this]
end Go.Proofs.YtljlfiomikifjaaGreatDoor
end
