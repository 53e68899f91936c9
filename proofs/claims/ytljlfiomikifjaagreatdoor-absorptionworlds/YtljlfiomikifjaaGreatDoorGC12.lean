/- Texts of this claim, joined (the program, its functions in plain words, and what they compute). -/
import Derived.Test.YtljlfiomikifjaaGreatDoorGC11
set_option autoImplicit false
set_option linter.unusedVariables false
set_option linter.unusedSectionVars false
set_option linter.unusedSimpArgs false
set_option maxRecDepth 1000000
set_option maxHeartbeats 0
noncomputable section
namespace Go.Proofs.YtljlfiomikifjaaGreatDoor
open Go Go.Ab
theorem okA.fine {a:yC} (oa:okA a):zw (11+1) a:=oa.1.1
theorem okA.fac {a:yC} (oa:okA a):∀ t∈a,zf3 (zw 11) t.Fs:=λt ht=>oa.fine.2 t ht
theorem okA.len {a:yC} (oa:okA a):a.length<=1000000:=oa.fine.1
section
variable {α β ρ σ τ:Type} [Inhabited τ]
def z9X (f:σ->τ->σ⊕ρ):List τ->σ->σ⊕ρ
 | [],s=>.inl s
 | x::r,s=>match f s x with
  | .inl u=>z9X f r u
  | .inr v=>.inr v
def zblr (res:σ->ρ):σ⊕ρ->ρ
 | .inl s=>res s
 | .inr v=>v
theorem z9u {W:α->β->Wy α β ρ} {z:ρ} (l:List τ) (ex:Nat->σ->α) (ey:Nat->σ->β) (f:σ->τ->σ⊕ρ) (res:σ->ρ) (I:Nat->σ->Prop)
  (h:∀ i s,i<l.length->I i s->(∀ u,f s (l.getD i default)=.inl u->I (i+1) u)/\∀ (H:α->β->Bool×ρ) K D,(W (ex i s) (ey i s)).ev H K D=match f s (l.getD i default) with | .inl u=>H (ex (i+1) u) (ey (i+1) u) | .inr v=>K v)
  (he:∀ s,I l.length s->∀ (H:α->β->Bool×ρ) K D,(W (ex l.length s) (ey l.length s)).ev H K D=K (res s)):
  ∀ n i s,l.length<i+n->i<=l.length->I i s->zA W z n (ex i s) (ey i s)=(true,zblr res (z9X f (l.drop i) s))
 | 0,i,s,h1,h2,_=>by omega
 | n+1,i,s,h1,h2,hI=>by
  show (W (ex i s) (ey i s)).ev (zA W z n) (λr=>(true,r)) (false,z)=_
  by_cases hi:i<l.length
  ·obtain ⟨a1,a2⟩:=h i s hi hI;rw [a2,zY hi];show _=(true,zblr res (match f s (l.getD i default) with | .inl u=>z9X f (l.drop (i+1)) u | .inr v=>.inr v))
   cases hf:f s (l.getD i default) with
   | inl u=>exact z9u l ex ey f res I h he n (i+1) u (by omega) (by omega) (a1 u hf)
   | inr v=>rfl
  ·have:i=l.length:=by omega
   subst this;rw [he s hI,zce hi]; rfl
theorem zbgG {W:α->β->Wy α β ρ} {z:ρ} (l:List τ) (ex:Nat->σ->α) (ey:Nat->σ->β) (f:σ->τ->σ⊕ρ) (res:σ->ρ) (I:Nat->σ->Prop)
  (h:∀ i s,i<l.length->I i s->(∀ u,f s (l.getD i default)=.inl u->I (i+1) u)/\∀ (H:α->β->Bool×ρ) K D,(W (ex i s) (ey i s)).ev H K D=match f s (l.getD i default) with | .inl u=>H (ex (i+1) u) (ey (i+1) u) | .inr v=>K v)
  (he:∀ s,I l.length s->∀ (H:α->β->Bool×ρ) K D,(W (ex l.length s) (ey l.length s)).ev H K D=K (res s)) (n:Nat) (s:σ) (hn:l.length<n) (h0:I 0 s):
  zA W z n (ex 0 s) (ey 0 s)=(true,zblr res (z9X f l s)):=by
 have:=z9u (z:=z) l ex ey f res I h he n 0 s (by omega) (by omega) h0
 simpa using this
theorem zm3 {W:α->β->Wy α β ρ} {z:ρ} (l:List τ) (ex:Nat->σ->α) (ey:Nat->σ->β) (f:σ->τ->σ) (res:σ->ρ) (I:Nat->σ->Prop)
  (h:∀ i s,i<l.length->I i s->I (i+1) (f s (l.getD i default))/\∀ (H:α->β->Bool×ρ) K D,(W (ex i s) (ey i s)).ev H K D=H (ex (i+1) (f s (l.getD i default))) (ey (i+1) (f s (l.getD i default))))
  (he:∀ s,I l.length s->∀ (H:α->β->Bool×ρ) K D,(W (ex l.length s) (ey l.length s)).ev H K D=K (res s)) (n:Nat) (s:σ) (hn:l.length<n) (h0:I 0 s):
  zA W z n (ex 0 s) (ey 0 s)=(true,res (l.foldl f s)):=by
 have e:=zbgG (z:=z) l ex ey (λs x=>(.inl (f s x):σ⊕ρ)) res I (λi s hi hs=>⟨λu hu=>by rw [Sum.inl.injEq] at hu; rw [<- hu]; exact (h i s hi hs).1,(h i s hi hs).2⟩) he n s hn h0
 rw [e]
 have k:∀ (l:List τ) (s:σ),z9X (λs x=>(.inl (f s x):σ⊕ρ)) l s=.inl (l.foldl f s):=by
  intro l;induction l with
  | nil=>intro s; rfl
  | cons x r ih=>intro s; exact ih _
 rw [k]; rfl
end
theorem zbfg {τ:Type} (p:τ->Bool):∀ (l:List τ) (b:Bool),l.foldl (λf y=>f||p y) b=(b||l.any p)
 | [],b=>by simp
 | x::r,b=>by rw [List.foldl_cons,zbfg p r,List.any_cons,Bool.or_assoc]
theorem zbmX (x y:RowID):(if zdJ x.Table y.Table=0 then zdJ x.Seq y.Seq else zdJ x.Table y.Table)=cR x y:=by
 unfold zdJ cR;by_cases h1:x.Table<y.Table
 ·simp [h1]
 ·by_cases h2:y.Table<x.Table
  ·simp [h1,h2]
  ·simp [h1,h2]
theorem zbb1 (x y:RowID):zh0 x y=(true,cR x y):=by rw [zG7,zbmX]
theorem zboJ (a b:yF) (i:Nat) (hi:i<a.length) (hb:b.length<=1000000) (n:Nat) (hn:b.length<n):zFg n a b i false 0=(true,(a,b,(i:Int),decide (a.getD i default∈b))):=by
 have h:=zm3 (W:=zF8) (z:=default) b (λk f=>(a,b,(i:Int),f,(k:Int),())) (λ_ _=>()) (λf y=>f||decide (a.getD i default=y)) (λf=>(a,b,(i:Int),f)) (λ_ _=>True)
  (λk f hk _=>⟨trivial,λH K D=>by
   show (ztX a b i f k).ev H K D=_;unfold ztX;simp only [Wy.ev_i,Wy.ev_k,Wy.ev_h,Wy.ev_bn,Wy.ev_d,Int.ofNat_eq_natCast,zcd,zbc,decide_true,decide_false,Bool.and_self,Bool.true_and,Bool.and_true,cond_true,cond_false,Int.toNat_natCast,eqR,eqR',Bool.not_true,Bool.not_false,bnd,hi,hk];rw [zJ (by omega)]
   cases f with
   | true=>rfl
   | false=>rw [cond_false,Bool.false_or]⟩)
  (λf _ H K D=>by
   show (ztX a b i f b.length).ev H K D=_;unfold ztX;simp only [Wy.ev_i,Wy.ev_k,Int.ofNat_eq_natCast,zcd,zbc,decide_true,decide_false,Bool.and_self,Bool.true_and,Bool.and_true,cond_true,cond_false,Int.toNat_natCast,eqR,eqR',Bool.not_true,Bool.not_false,bnd,Nat.lt_irrefl]) n false hn trivial
 have h:zFg n a b i false 0=_:=h;rw [h,zbfg,Bool.false_or];congr 4;rw [Bool.eq_iff_iff,List.any_eq_true,qe];exact ⟨λ⟨y,hy,e⟩=>(of_decide_eq_true e) ▸ hy,λh=>⟨_,h,decide_eq_true rfl⟩⟩
theorem zbiD (a b:yF) (ha:a.length<=1000000) (hb:b.length<=1000000):zA8 a b=(true,sub a b):=by
 unfold zA8 zTy
 have h:=zg7 (W:=zFZ) (z:=.inl default) a.length (λi=>(a,b,(i:Int),())) (λ_=>()) (λi=>decide (a.getD i default∈b)) (.inl false) (.inr ())
  (λi hi H K D=>by
   show (zug a b i).ev H K D=_;unfold zug;simp only [Wy.ev_i,Wy.ev_k,Wy.ev_h,Wy.ev_bn,Wy.ev_d,Int.ofNat_eq_natCast,zcd,zbc,decide_true,decide_false,Bool.and_self,Bool.true_and,Bool.and_true,cond_true,cond_false,Int.toNat_natCast,eqR,eqR',Bool.not_true,Bool.not_false,bnd,hi,zboJ a b i hi hb (a.length+b.length+i+Int.toNat (0:Int)+1000) (by omega)]
   rw [zJ (by omega)]
   cases decide (a.getD i default∈b) <;>rfl)
  (λH K D=>by
   show (zug a b a.length).ev H K D=_;unfold zug;simp only [Wy.ev_i,Wy.ev_k,Int.ofNat_eq_natCast,zcd,zbc,decide_true,decide_false,Bool.and_self,Bool.true_and,Bool.and_true,cond_true,cond_false,Int.toNat_natCast,eqR,eqR',Bool.not_true,Bool.not_false,bnd,Nat.lt_irrefl]) (a.length+b.length+Int.toNat (0:Int)+1000) (by omega)
 have h:zQ5 (a.length+b.length+Int.toNat (0:Int)+1000) a b 0=_:=h;rw [Wy.fin_bn,h,ztF (λx=>decide (x∈b)) a]
 show _=(true,a.all λx=>decide (x∈b))
 cases a.all λx=>decide (x∈b) <;>rfl
theorem zbey (s:yF) (l:yB) (hs:s.length<=1000000) (hl:l.length<=1000000) (hle:∀ x∈l,x.length<=1000000):zvC s l=(true,l.any λx=>sub x s):=by
 unfold zvC zNX
 have h:=zg7 (W:=zCv) (z:=.inl default) l.length (λi=>(s,l,(i:Int),())) (λ_=>()) (λi=> !sub (l.getD i default) s) (.inl true) (.inr ())
  (λi hi H K D=>by
   show (zoW s l i).ev H K D=_;unfold zoW;simp only [Wy.ev_i,Wy.ev_k,Wy.ev_h,Wy.ev_bn,Wy.ev_d,Int.ofNat_eq_natCast,zcd,zbc,decide_true,decide_false,Bool.and_self,Bool.true_and,Bool.and_true,cond_true,cond_false,Int.toNat_natCast,eqR,eqR',Bool.not_true,Bool.not_false,bnd,hi,zbiD _ _ (hle _ (zI hi)) hs];rw [zJ (by omega)]
   cases sub (l.getD i default) s <;>rfl)
  (λH K D=>by
   show (zoW s l l.length).ev H K D=_;unfold zoW;simp only [Wy.ev_i,Wy.ev_k,Int.ofNat_eq_natCast,zcd,zbc,decide_true,decide_false,Bool.and_self,Bool.true_and,Bool.and_true,cond_true,cond_false,Int.toNat_natCast,eqR,eqR',Bool.not_true,Bool.not_false,bnd,Nat.lt_irrefl]) (s.length+l.length+Int.toNat (0:Int)+1000) (by omega)
 have h:zLX (s.length+l.length+Int.toNat (0:Int)+1000) s l 0=_:=h;rw [Wy.fin_bn,h,ztF (λx=> !sub x s) l]
 have e:(l.any λx=>sub x s)= !(l.all λx=> !sub x s):=by rw [List.not_all_eq_any_not]; simp
 rw [e];cases l.all λx=> !sub x s <;>rfl
def zbe9 (s:yF) (st:Bool×yB) (y:yF):Bool×yB:=
 if sub s y=true then st else if st.1=false/\cS s y<0 then (true,st.2++[s]++[y]) else (st.1,st.2++[y])
def zbh4 (x:RowID):yF->yF
 | []=>[x]
 | y::r=>if cR x y=0 then y::r else x::y::r
theorem zbj3 (x y:RowID) (r:yF):zbh4 x (y::r)=if cR x y=0 then y::r else x::y::r:=rfl
theorem zbel (x:RowID):∀ l:yF,zlq cR x l=l.takeWhile (λy=>decide (cR y x<0))++zbh4 x (l.dropWhile (λy=>decide (cR y x<0)))
 | []=>rfl
 | y::r=>by
  rw [List.takeWhile_cons,List.dropWhile_cons];unfold zlq;by_cases h:cR y x<0
  ·have h0:¬ cR x y<0:=zis.asymm h;have h1:¬ cR x y=0:=λe=>by have:=(zis.swap y x).1 h; omega
   simp only [h,h0,h1,if_true,if_false,decide_true,List.cons_append];rw [zbel x r]
  ·simp only [h,if_false,decide_false,Bool.false_eq_true,List.nil_append,zbh4];by_cases h2:cR x y=0
   ·have:¬ cR x y<0:=by omega
    simp [h2,this]
   ·have:cR x y<0:=Classical.byContradiction λh3=>h2 ((zis.eq _ _).2 (zis.conn h3 h))
    simp [h2,this]
theorem z8s (l:yF) (id:RowID) (hl:l.length<=1000000):zwo l id=(true,zlq cR id l):=by
 have hreach:zP=70368744177664:=rfl;unfold zwo zT6
 have hL:=zMm (W:=zFD) (z:=default) l (λx=>decide (cR x id<0)) (λk=>(l,(),(k:Int),())) (λ_=>(id,())) (λk=>(l,(k:Int),id))
  (λk hk H K D=>by
   show (ztV l k id).ev H K D=_;unfold ztV;simp only [Wy.ev_i,Wy.ev_k,Wy.ev_h,Wy.ev_bn,Wy.ev_d,Int.ofNat_eq_natCast,zcd,zbc,decide_true,decide_false,Bool.and_self,Bool.true_and,Bool.and_true,cond_true,cond_false,Int.toNat_natCast,eqR,eqR',Bool.not_true,Bool.not_false,bnd,hk,zbb1];rw [zJ (by omega)])
  (λH K D=>by
   show (ztV l l.length id).ev H K D=_;unfold ztV;simp only [Wy.ev_i,Wy.ev_k,Int.ofNat_eq_natCast,zcd,zbc,decide_true,decide_false,Bool.and_self,Bool.true_and,Bool.and_true,cond_true,cond_false,Int.toNat_natCast,eqR,eqR',Bool.not_true,Bool.not_false,bnd,Nat.lt_irrefl]) (l.length+Int.toNat (0:Int)+(1:Nat)) (by omega)
 have hL:zRk (l.length+Int.toNat (0:Int)+(1:Nat)) l 0 id=_:=hL;rw [hL,z3t,zbel];have q1:=zbfi l (λx=>decide (cR x id<0))
 have q2:=zUB (λx=>decide (cR x id<0)) l
 have q3:=zTY (λx=>decide (cR x id<0)) l
 generalize (l.takeWhile λx=>decide (cR x id<0)).length=k at q1 q2 q3 ⊢
 rw [<- q2, <- q3];have g2:decide ((0+(l.take k).length)*16<=zP)=true:=by simp only [qe,List.length_take]; omega
 have gk':decide ((k:Int)<=Int.ofNat l.length)=true:=by simp only [qe,Int.ofNat_eq_natCast]; omega
 have gb:∀ x:RowID,decide (((l.take k).length+[x].length)*16<=zP)=true:=λx=>by simp only [qe,List.length_take,List.length_singleton]; omega
 have gc:∀ (x:RowID) (m:Nat),decide (((l.take k++[x]).length+(l.drop m).length)*16<=zP)=true:=λx m=>by simp only [qe,List.length_take,List.length_drop,qg,List.length_singleton]; omega
 have g1:(decide ((0:Int)<=(0:Int))&&decide ((0:Int)<=(k:Int))&&decide ((k:Int)<=Int.ofNat l.length))=true:=by simp only [qc,qe,Int.ofNat_eq_natCast]; omega
 have g3:(decide ((0:Int)<=(k:Int))&&decide ((k:Int)<=Int.ofNat l.length)&&decide (Int.ofNat l.length<=Int.ofNat l.length))=true:=by simp only [qc,qe,Int.ofNat_eq_natCast]; omega
 simp only [Wy.fin_i,Wy.fin_k,Wy.fin_bn,List.nil_append,Int.toNat_natCast,zUs,zER,g1,g2,g3,gb,gc,cond_true];by_cases hk:k<l.length
 ·have g4:decide ((k:Int)<Int.ofNat l.length)=true:=by simp [hk]
  have g5:(decide ((0:Int)<=(k:Int))&&decide ((k:Int)<Int.ofNat l.length))=true:=by rw [g4]; simp
  simp only [g4,g5,zbc,Bool.and_self,cond_true,eqR];rw [zY hk,zbj3];by_cases e:l.getD k default=id
  ·have e2:cR id (l.getD k default)=0:=(zis.eq _ _).2 e.symm;rw [decide_eq_true e,if_pos e2,cond_true, <- zY hk,List.take_append_drop]
  ·have e2:¬ cR id (l.getD k default)=0:=λh=>e ((zis.eq _ _).1 h).symm
   rw [decide_eq_false e,if_neg e2,cond_false];simp
 ·have g4:decide ((k:Int)<Int.ofNat l.length)=false:=by simp [hk]
  simp only [g4,zbc,Bool.true_and,gk',Int.le_refl,decide_true,Bool.and_self,gb,gc,cond_true,cond_false];rw [zce hk];simp [zbh4]
theorem z2o (x:RowID) (l:yF):(zlq cR x l).length<=l.length+1:=by
 induction l with
 | nil=>simp [zlq]
 | cons y r ih=>
  unfold zlq;split
  ·simp
  ·split
   ·simp
   ·simp only [qf]; omega
theorem zbk7 (a b:yF) (ha:a.length<=400000) (hb:b.length<=400000):zBC a b=(true,b.foldl (λo x=>zlq cR x o) a):=by
 unfold zBC z2X
 have h:=zm3 (W:=zK8) (z:=default) b (λi st=>(st,b,(i:Int),())) (λ_ _=>()) (λo x=>zlq cR x o) id (λi st=>st.length<=a.length+i)
  (λi st hi hI=>⟨by
   have:=z2o (b.getD i default) st;omega,λH K D=>by
   show (zyC st b i).ev H K D=_;unfold zyC;simp only [Wy.ev_i,Wy.ev_k,Wy.ev_h,Wy.ev_bn,Wy.ev_d,Int.ofNat_eq_natCast,zcd,zbc,decide_true,decide_false,Bool.and_self,Bool.true_and,Bool.and_true,cond_true,cond_false,Int.toNat_natCast,eqR,eqR',Bool.not_true,Bool.not_false,bnd,hi,z8s st (b.getD i default) (by omega)]
   rw [zJ (by omega)]⟩)
  (λst hI H K D=>by
   show (zyC st b b.length).ev H K D=_;unfold zyC;simp only [Wy.ev_i,Wy.ev_k,Int.ofNat_eq_natCast,zcd,zbc,decide_true,decide_false,Bool.and_self,Bool.true_and,Bool.and_true,cond_true,cond_false,Int.toNat_natCast,eqR,eqR',Bool.not_true,Bool.not_false,bnd,Nat.lt_irrefl]; rfl) (a.length+b.length+Int.toNat (0:Int)+1) a (by omega) (by simp)
 have h:zYo (a.length+b.length+Int.toNat (0:Int)+1) a b 0=_:=h;rw [Wy.fin_bn,h]; rfl
theorem zbo1 {n:Nat} (hn:n<=1000) {a:yC} (ha:zbe6 a):∃ q,zAJ (n:Int) [a]=(true,q)/\(q=true->okA a/\zbw a<=n):=by
 obtain ⟨q,h1,h2⟩:=zbod n hn [a] (by simp) (λx hx=>by rw [qh] at hx; subst hx; exact ha)
 exact ⟨q,h1,λh=>⟨zbmj hn (h2 h a (by simp)) ha,(h2 h a (by simp)).2⟩⟩
end Go.Proofs.YtljlfiomikifjaaGreatDoor
/- One step of the functions on sets of row identifiers. -/
set_option maxRecDepth 100000
namespace Go.Proofs.YtljlfiomikifjaaGreatDoor
open Go Go.Ab
theorem zjL (n:Nat) (s1:yF) (s2:yF) (t11:yF) (t12:Int) (t13:Int):zbN (n+1) s1 s2 t11 t12 t13=(zc0 s1 s2 t11 t12 t13).ev (λx y=>zbN n x.1 x.2.1 x.2.2.2.1 x.2.2.2.2.1 x.2.2.2.2.2.1) (λr=>(true,r)) (false,.inl default):=rfl
theorem zyI (n:Nat) (s1:yF) (s2:yF) (t12:Int) (t13:Int):zdT (n+1) s1 s2 t12 t13=(zh5 s1 s2 t12 t13).ev (λx y=>zdT n x.1 x.2.1 x.2.2.1 x.2.2.2.1) (λr=>(true,r)) (false,.inl default):=rfl
theorem zyn (n:Nat) (s:yF) (t7:Int) (t8:Int) (v:RowID):zdW (n+1) s t7 t8 v=(zig s t7 t8 v).ev (λx y=>zdW n x.1 x.2.2.1 x.2.2.2.1 y.1) (λr=>(true,r)) (false,.inl default):=rfl
theorem zvb (n:Nat) (s:yF) (f:yF) (t7:Int) (t8:Int):zdd (n+1) s f t7 t8=(zgy s f t7 t8).ev (λx y=>zdd n x.1 x.2.1.1.1 x.2.2.1 x.2.2.2.1) (λr=>(true,r)) (false,.inl default):=rfl
theorem zuH (n:Nat) (del:yF) (i:Int) (j:Int) (s:yF):zc8 (n+1) del i j s=(zf7 del i j s).ev (λx y=>zc8 n x.2.1.1.1 x.2.2.1 x.2.2.2.1 y.1) (λr=>(true,r)) (false,default):=rfl
theorem zwP (n:Nat) (k:Int) (s2_0:Nat) (s2_1:Nat) (k2:Int) (s:yF):zeI (n+1) k s2_0 s2_1 k2 s=(zhi k s2_0 s2_1 k2 s).ev (λx y=>zeI n x.2.1 x.2.2.1.1 x.2.2.1.2 x.2.2.2.1 y.1) (λr=>(true,r)) (false,default):=rfl
theorem zwL (n:Nat) (k:Int) (s:yF):zdy (n+1) k s=(zhh k s).ev (λx y=>zdy n x.2.1 y.1) (λr=>(true,r)) (false,.inl default):=rfl
theorem zsb (n:Nat) (k:Int) (s2_0:Nat) (s2_1:Nat) (k2:Int) (s:yB):zdQ (n+1) k s2_0 s2_1 k2 s=(zfl k s2_0 s2_1 k2 s).ev (λx y=>zdQ n x.2.2.1 x.2.2.2.1.1 x.2.2.2.1.2 x.2.2.2.2.1 y.1) (λr=>(true,r)) (false,default):=rfl
theorem zsg (n:Nat) (k:Int) (s:yB):zcM (n+1) k s=(zff k s).ev (λx y=>zcM n x.2.2.1 y.1) (λr=>(true,r)) (false,.inl default):=rfl
theorem zZU (n:Nat) (t6:yB) (t7:Int) (t8:Int) (out_:yB):zqN (n+1) t6 t7 t8 out_=(zDW t6 t7 t8 out_).ev (λx y=>zqN n x.2.1 x.2.2.1 x.2.2.2.1 y.1) (λr=>(true,r)) (false,default):=rfl
theorem zXr (n:Nat) (t8:Int) (t9:Int) (out_:List Int):zo5 (n+1) t8 t9 out_=(zCu t8 t9 out_).ev (λx y=>zo5 n x.2.1 x.2.2.1 y.1) (λr=>(true,r)) (false,default):=rfl
theorem zEX (n:Nat) (s:List Int) (f_0:Int) (f_1:yB) (f_2:yF) (t7:Int) (t8:Int):zf1 (n+1) s f_0 f_1 f_2 t7 t8=(zmB s f_0 f_1 f_2 t7 t8).ev (λx y=>zf1 n x.1 x.2.1.1.1 x.2.1.2.1.1 x.2.1.2.2.1.1 x.2.2.1 x.2.2.2.1) (λr=>(true,r)) (false,.inl default):=rfl
theorem zVF (n:Nat) (t11:Int) (t12:Int) (out_:yB) (t10:yB):zo0 (n+1) t11 t12 out_ t10=(zCD t11 t12 out_ t10).ev (λx y=>zo0 n x.2.2.2.1 x.2.2.2.2.1 y.2.1 y.2.2.1) (λr=>(true,r)) (false,default):=rfl
theorem zWV (n:Nat) (b:yB) (x_:yF) (t10:yB) (t11:Int) (t12:Int) (t16:yB) (t17:Int) (t18:Int) (out_:yB):zvu (n+1) b x_ t10 t11 t12 t16 t17 t18 out_=(zCK b x_ t10 t11 t12 t16 t17 t18 out_).ev (λx y=>zvu n x.1 x.2.2.1 x.2.2.2.1 x.2.2.2.2.1 x.2.2.2.2.2.1 x.2.2.2.2.2.2.1 x.2.2.2.2.2.2.2.1 x.2.2.2.2.2.2.2.2.1 y.1) (λr=>(true,r)) (false,default):=rfl
theorem zWK (n:Nat) (b:yB) (t10:yB) (t11:Int) (t12:Int) (out_:yB):zo3 (n+1) b t10 t11 t12 out_=(zCH b t10 t11 t12 out_).ev (λx y=>zo3 n x.1 x.2.2.1 x.2.2.2.1 x.2.2.2.2.1 y.1) (λr=>(true,r)) (false,default):=rfl
theorem z30 (a:RowID) (b:RowID):zeX a b=bnd (zdb a.Table b.Table) (λr2=>bnd (zdb a.Seq b.Seq) (λr1=>bnd (zlK [r2,r1]) (λr0=>(true,r0)) (false,default)) (false,default)) (false,default):=rfl
theorem zkA (s1:yF) (s2:yF):zbz s1 s2=bnd (zbN (s1.length+s2.length+s1.length+(Int.ofNat s1.length).toNat +Int.toNat (0:Int)+(1:Nat)) s1 s2 s1 (Int.ofNat s1.length) (0:Int)) (λr2=>bif isL r2 then (true,getL r2) else bif decide (Int.ofNat (getR r2).fst.length<Int.ofNat (getR r2).snd.length) then (true,(-1:Int)) else (true,(0:Int))) (false,default):=rfl
theorem zTO (a:yF) (b:yF):zew a b=bnd (zbz a b) (λr0=>(true,r0)) (false,default):=rfl
theorem zBe (s1:yF) (s2:yF):zdr s1 s2=bif Int.ofNat s1.length != Int.ofNat s2.length then (true,false) else bnd (zdT (s1.length+s2.length+(Int.ofNat s1.length).toNat +Int.toNat (0:Int)+(1:Nat)) s1 s2 (Int.ofNat s1.length) (0:Int)) (λr0=>bif isL r0 then (true,getL r0) else (true,true)) (false,default):=rfl
theorem zAL (s:yF) (v:RowID):zds s v=bnd (zdW (s.length+(Int.ofNat s.length).toNat +Int.toNat (0:Int)+(1:Nat)) s (Int.ofNat s.length) (0:Int) v) (λr0=>bif isL r0 then (true,getL r0) else (true,(-1:Int))) (false,default):=rfl
theorem zyA (s:yF) (v:RowID):zcX s v=bnd (zds s v) (λr0=>(true,decide (r0≥(0:Int)))) (false,default):=rfl
theorem z1Z (id:RowID) (p1:yF):znT id p1=bnd (zcX p1 id) (λr0=>(true,r0)) (false,default):=rfl
theorem zxI (s:yF) (f:yF):zcm s f=bnd (zdd (s.length+f.length+(Int.ofNat s.length).toNat +Int.toNat (0:Int)+(1:Nat)) s f (Int.ofNat s.length) (0:Int)) (λr2=>bif isL r2 then (true,getL r2) else (true,(-1:Int))) (false,default):=rfl
theorem zwR (s:yF) (del:yF):zcG s del=bnd (zcm s del) (λr3=>bif r3==(-1:Int) then (true,s) else bnd (zc8 (del.length+r3.toNat +(IntKind.i64.wrap (r3+(1:Int))).toNat +s.length+(1:Nat)) del r3 (IntKind.i64.wrap (r3+(1:Int))) s) (λr2=>bif decide ((0:Int)<=r2.fst)&&decide (r2.fst<=Int.ofNat r2.snd.length)&&decide (Int.ofNat r2.snd.length<=Int.ofNat r2.snd.length) then bif decide (r2.fst.toNat +((Int.ofNat r2.snd.length).toNat - r2.fst.toNat)<=r2.snd.length) then bif decide ((0:Int)<=(0:Int))&&decide ((0:Int)<=r2.fst)&&decide (r2.fst<=Int.ofNat (List.take r2.fst.toNat r2.snd++List.replicate ((Int.ofNat r2.snd.length).toNat - r2.fst.toNat) (RowID.mk (0:Int) (0:Int))++List.drop (r2.fst.toNat +((Int.ofNat r2.snd.length).toNat - r2.fst.toNat)) r2.snd).length) then (true,List.take (r2.fst.toNat - Int.toNat (0:Int)) (List.take r2.fst.toNat r2.snd++List.replicate ((Int.ofNat r2.snd.length).toNat - r2.fst.toNat) (RowID.mk (0:Int) (0:Int))++List.drop (r2.fst.toNat +((Int.ofNat r2.snd.length).toNat - r2.fst.toNat)) r2.snd)) else (false,default) else (false,default) else (false,default)) (false,default)) (false,default):=rfl
theorem zzj (s:yF):zc9 s=bif decide (Int.ofNat s.length<(2:Int)) then (true,s) else bnd (zdy (Int.toNat (1:Int)+s.length+(1:Nat)) (1:Int) s) (λr2=>bif isL r2 then (true,List.take (getL r2).fst (getL r2).snd) else (true,getR r2)) (false,default):=rfl
theorem zZg (a:yF) (b:yF):zmA a b=bnd (zdr a b) (λr0=>(true,r0)) (false,default):=rfl
theorem zuo (s:yB):zcp s=bif decide (Int.ofNat s.length<(2:Int)) then (true,s) else bnd (zcM (Int.toNat (1:Int)+s.length+(1:Nat)) (1:Int) s) (λr6=>bif isL r6 then (true,List.take (getL r6).fst (getL r6).snd) else (true,getR r6)) (false,default):=rfl
theorem zYK (l:yF):zgC l=bnd (zcl l) (λr2=>bnd (zc2 r2) (λr1=>bnd (zc9 r1) (λr0=>(true,r0)) (false,default)) (false,default)) (false,default):=rfl
theorem z8b (a:yF) (b:yF):zBd a b=bnd (zcl a) (λr1=>bif decide ((r1.length+b.length)*(16:Nat)<=zP) then bnd (zgC (r1++b)) (λr0=>(true,r0)) (false,default) else (false,default)) (false,default):=rfl
theorem zbae (a:yF) (b:yF):zwb a b=bnd (zgC a) (λr1=>bnd (zcG r1 b) (λr0=>(true,r0)) (false,default)) (false,default):=rfl
theorem z7t (a:yF) (b:yF):ztc a b=bnd (zwb a b) (λr0=>(true,Int.ofNat r0.length==(0:Int))) (false,default):=rfl
theorem z6t (l:yB):zlS l=bnd (zqN (l.length+(Int.ofNat l.length).toNat +Int.toNat (0:Int)+(0:Nat)+(1:Nat)) l (Int.ofNat l.length) (0:Int) []) (λr4=>bnd (zcH r4) (λr3=>bnd (zcp r3) (λr2=>(true,r2)) (false,default)) (false,default)) (false,default):=rfl
theorem z3S (n_:Int):zvQ n_=bif decide ((0:Int)<=n_)&&decide (n_<=n_)&&decide (n_*Int.ofNat (8:Nat)<=Int.ofNat zP)&&decide (n_<=Int.ofNat zP) then bnd (zo5 ((Int.ofNat (List.replicate n_.toNat (0:Int)).length).toNat +Int.toNat (0:Int)+(List.replicate n_.toNat (0:Int)).length+(1:Nat)) (Int.ofNat (List.replicate n_.toNat (0:Int)).length) (0:Int) (List.replicate n_.toNat (0:Int))) (λr0=>(true,r0)) (false,default) else (false,default):=rfl
theorem zWQ (k:Int) (p1:Int) (p2:yB) (p3:yF):zoO k p1 p2 p3=bif k != p1 then bif decide ((0:Int)<=k)&&decide (k<Int.ofNat p2.length) then bnd (ztc (p2.getD k.toNat default) p3) (λr0=>(true,r0)) (false,default) else (false,default) else (true,false):=rfl
theorem zHb (s:List Int) (f_0:Int) (f_1:yB) (f_2:yF):zfs s f_0 f_1 f_2=bnd (zf1 (s.length+f_0.toNat +f_1.length+f_2.length+(Int.ofNat s.length).toNat +Int.toNat (0:Int)+(1:Nat)) s f_0 f_1 f_2 (Int.ofNat s.length) (0:Int)) (λr2=>bif isL r2 then (true,getL r2) else (true,(-1:Int))) (false,default):=rfl
theorem zE2 (s:List Int) (f_0:Int) (f_1:yB) (f_2:yF):zfZ s f_0 f_1 f_2=bnd (zfs s f_0 f_1 f_2) (λr0=>(true,decide (r0≥(0:Int)))) (false,default):=rfl
theorem z4p (l:yB):zg0 l=bnd (zlS l) (λr5=>bnd (zo0 ((Int.ofNat r5.length).toNat +Int.toNat (0:Int)+(0:Nat)+r5.length+(1:Nat)) (Int.ofNat r5.length) (0:Int) [] r5) (λr4=>(true,r4)) (false,default)) (false,default):=rfl
theorem z4x (a:yB) (b:yB):zmF a b=bnd (zo3 (b.length+a.length+(Int.ofNat a.length).toNat +Int.toNat (0:Int)+(0:Nat)+(1:Nat)) b a (Int.ofNat a.length) (0:Int) []) (λr7=>bnd (zlS r7) (λr6=>(true,r6)) (false,default)) (false,default):=rfl
end Go.Proofs.YtljlfiomikifjaaGreatDoor
/- What the printed functions compute: the program's functions on sets of row identifiers. -/
namespace Go.Proofs.YtljlfiomikifjaaGreatDoor
open Go Go.Ab
theorem zCC (a b:RowID):zeX a b=(true,cR a b):=by
 rw [z30];simp only [ztU,bnd,cond_true];rw [ztf _ (by simp)]
 simp only [cond_true,cR,ztb,zdJ];congr 1
 repeat' split
 all_goals first | rfl | omega
theorem zOX (a b:yF) (ha:a.length<=1000000) (hb:b.length<=1000000):∀ (n i:Nat),a.length<i+n->i<=a.length->i<=b.length->
  ∃ r,zbN n a b a a.length i=(true,r)/\((r=.inl (cS (a.drop i) (b.drop i)))\/(r=.inr (a,b)/\cS (a.drop i) (b.drop i)=if a.length<b.length then -1 else 0))
 | 0,i,h,h2,h3=>by omega
 | n+1,i,h,h2,h3=>by
  rw [zjL];unfold zc0;by_cases hi:i<a.length
  ·by_cases hi':i<b.length
   ·have hg:¬ b.length<=i:=by omega
    simp only [Wy.ev_i,Wy.ev_k,Wy.ev_h,Wy.ev_bn,Wy.ev_d,Int.ofNat_eq_natCast,zcd,zbc,decide_true,decide_false,Bool.and_self,Bool.true_and,Bool.and_true,cond_true,cond_false,Int.toNat_natCast,eqR,eqR',Bool.not_true,Bool.not_false,bnd,hi,hi',z8z,hg,zCC];rw [zY hi,zY hi',zJ (by omega)]
    generalize a.getD i default=x;generalize b.getD i default=y;by_cases hx:cR x y=0
    ·have e:(cR x y != 0)=false:=by simp [hx]
     simp only [e,cond_false,zAU,hx,if_true];exact zOX a b ha hb n (i+1) (by omega) (by omega) (by omega)
    ·have e:(cR x y != 0)=true:=by simp [hx]
     simp only [e,cond_true,zAU,hx,if_false];exact ⟨_,rfl,.inl rfl⟩
   ·have hg:b.length<=i:=by omega
    simp only [Wy.ev_i,Wy.ev_k,Wy.ev_h,Wy.ev_bn,Wy.ev_d,Int.ofNat_eq_natCast,zcd,zbc,decide_true,decide_false,Bool.and_self,Bool.true_and,Bool.and_true,cond_true,cond_false,Int.toNat_natCast,eqR,eqR',Bool.not_true,Bool.not_false,bnd,hi,z8z,hg];refine ⟨_,rfl,.inl ?_⟩;rw [zY hi,zce hi']; rfl
  ·simp only [Wy.ev_i,Wy.ev_k,Wy.ev_h,Wy.ev_bn,Wy.ev_d,Int.ofNat_eq_natCast,zcd,zbc,decide_true,decide_false,Bool.and_self,Bool.true_and,Bool.and_true,cond_true,cond_false,Int.toNat_natCast,eqR,eqR',Bool.not_true,Bool.not_false,bnd,hi];refine ⟨_,rfl,.inr ⟨rfl, ?_⟩⟩;rw [zce hi];by_cases hi':i<b.length
   ·rw [zY hi',if_pos (by omega)]; rfl
   ·rw [zce hi',if_neg (by omega)]; rfl
theorem zEN (a b:yF) (ha:a.length<=1000000) (hb:b.length<=1000000):zew a b=(true,cS a b):=by
 rw [zTO]
 have h:zbz a b=(true,cS a b):=by
  rw [zkA];obtain ⟨r,h1,h2⟩:=zOX a b ha hb (a.length+b.length+a.length+(Int.ofNat a.length).toNat +Int.toNat 0+1) 0 (by simp; omega) (by omega) (by omega)
  rw [show (0:Int)=((0:Nat):Int) from rfl] at *
  rw [show Int.ofNat a.length=(a.length:Int) from rfl] at *
  rw [h1];simp only [List.drop_zero] at h2;rcases h2 with rfl | ⟨rfl,h2⟩
  ·rfl
  ·rw [h2];simp only [Wy.ev_i,Wy.ev_k,Wy.ev_h,Wy.ev_bn,Wy.ev_d,Int.ofNat_eq_natCast,zcd,zbc,decide_true,decide_false,Bool.and_self,Bool.true_and,Bool.and_true,cond_true,cond_false,Int.toNat_natCast,eqR,eqR',Bool.not_true,Bool.not_false,bnd,isL,getR];by_cases h3:a.length<b.length <;>simp [h3]
 rw [h]; rfl
theorem z8T (a b:yF) (ha:a.length<=1000000) (hab:a.length=b.length):∀ (n i:Nat),a.length<i+n->i<=a.length->zdT n a b a.length i=(true,if a.drop i=b.drop i then .inr () else .inl false)
 | 0,i,h,h2=>by omega
 | n+1,i,h,h2=>by
  rw [zyI];unfold zh5;by_cases hi:i<a.length
  ·have hi':i<b.length:=by omega
   simp only [Wy.ev_i,Wy.ev_k,Wy.ev_h,Wy.ev_bn,Wy.ev_d,Int.ofNat_eq_natCast,zcd,zbc,decide_true,decide_false,Bool.and_self,Bool.true_and,Bool.and_true,cond_true,cond_false,Int.toNat_natCast,eqR,eqR',Bool.not_true,Bool.not_false,bnd,hi,hi'];rw [zY hi,zY hi',zJ (by omega),z8T a b ha hab n (i+1) (by omega) (by omega)]
   generalize a.getD i default=x;generalize b.getD i default=y;by_cases hx:x=y <;>simp [hx]
  ·have hi':¬ i<b.length:=by omega
   simp only [Wy.ev_i,Wy.ev_k,Wy.ev_h,Wy.ev_bn,Wy.ev_d,Int.ofNat_eq_natCast,zcd,zbc,decide_true,decide_false,Bool.and_self,Bool.true_and,Bool.and_true,cond_true,cond_false,Int.toNat_natCast,eqR,eqR',Bool.not_true,Bool.not_false,bnd,hi,zce hi,zce hi']; simp
theorem z84 (a b:yF) (ha:a.length<=1000000):zdr a b=(true,decide (a=b)):=by
 rw [zBe];simp only [Int.ofNat_eq_natCast,zbhf];by_cases hab:a.length=b.length
 ·simp only [hab,ne_eq,not_true_eq_false,decide_false,cond_false];rw [show (0:Int)=((0:Nat):Int) from rfl, <- hab,z8T a b ha hab _ 0 (by simp; omega) (by omega)]
  by_cases h:a=b <;>simp [h,isL,getL,bnd]
 ·have:a≠b:=λe=>hab (by rw [e])
  simp [hab,this]
theorem zGW (a b:yF) (ha:a.length<=1000000):zmA a b=(true,decide (a=b)):=by
 rw [zZg];rw [z84 a b ha]; rfl
theorem zbat (l:yF) (v:RowID) (hl:l.length<=1000000):∀ (n i:Nat),l.length<i+n->i<=l.length->∃ r,zdW n l l.length i v=(true,r)/\((v∈l.drop i/\∃ j:Nat,r=.inl (j:Int))\/(v∉l.drop i/\r=.inr ()))
 | 0,i,h,h2=>by omega
 | n+1,i,h,h2=>by
  rw [zyn];unfold zig;by_cases hi:i<l.length
  ·simp only [Wy.ev_i,Wy.ev_k,Wy.ev_h,Wy.ev_bn,Wy.ev_d,Int.ofNat_eq_natCast,zcd,zbc,decide_true,decide_false,Bool.and_self,Bool.true_and,Bool.and_true,cond_true,cond_false,Int.toNat_natCast,eqR,eqR',Bool.not_true,Bool.not_false,bnd,hi];obtain ⟨r,h1,h3⟩:=zbat l v hl n (i+1) (by omega) (by omega)
   rw [zY hi,zJ (by omega),h1]
   generalize l.getD i default=x;by_cases hx:v=x
   ·subst hx;exact ⟨.inl (i:Int),by simp,.inl ⟨by simp,i,rfl⟩⟩
   ·refine ⟨r,by simp [hx], ?_⟩
    simpa [hx] using h3
  ·simp only [Wy.ev_i,Wy.ev_k,Wy.ev_h,Wy.ev_bn,Wy.ev_d,Int.ofNat_eq_natCast,zcd,zbc,decide_true,decide_false,Bool.and_self,Bool.true_and,Bool.and_true,cond_true,cond_false,Int.toNat_natCast,eqR,eqR',Bool.not_true,Bool.not_false,bnd,hi,zce hi];exact ⟨_,rfl,.inr ⟨by simp,rfl⟩⟩
theorem z1x (l:yF) (v:RowID) (hl:l.length<=1000000):zcX l v=(true,decide (v∈l)):=by
 have h:∃ k:Int,zds l v=(true,k)/\(0<=k↔v∈l):=by
  rw [zAL];obtain ⟨r,h1,h2⟩:=zbat l v hl (l.length+(Int.ofNat l.length).toNat +Int.toNat 0+1) 0 (by simp; omega) (by omega)
  rw [show (0:Int)=((0:Nat):Int) from rfl] at *
  rw [show Int.ofNat l.length=(l.length:Int) from rfl] at *
  rw [h1];rw [List.drop_zero] at h2;rcases h2 with ⟨h2,j,rfl⟩ | ⟨h2,rfl⟩
  ·exact ⟨(j:Int),rfl,by simp [h2]⟩
  ·exact ⟨-1,rfl,by simp [h2]⟩
 obtain ⟨k,h1,h2⟩:=h;rw [zyA];rw [h1];simp only [bnd,cond_true];by_cases h3:v∈l
 ·have:=h2.2 h3; simp [h3,this]
 ·have:¬ 0<=k:=λh=>h3 (h2.1 h)
  simp [h3]; omega
theorem zI1 (x:RowID) (b:yF) (hb:b.length<=1000000):znT x b=(true,decide (x∈b)):=by
 rw [z1Z];rw [z1x b x hb]; rfl
theorem zTQ (l b:yF) (hl:l.length<=1000000) (hb:b.length<=1000000):∀ (n i:Nat),l.length<i+n->i<=l.length->
  ∃ r,zdd n l b l.length i=(true,r)/\((∃ j:Nat,r=.inl (j:Int)/\i<=j/\j<l.length/\l.getD j default∈b/\l.drop i=(l.take j).drop i++l.drop j/\∀ x∈(l.take j).drop i,x∉b)\/(r=.inr ()/\∀ x∈l.drop i,x∉b))
 | 0,i,h,h2=>by omega
 | n+1,i,h,h2=>by
  rw [zvb];unfold zgy;by_cases hi:i<l.length
  ·simp only [Wy.ev_i,Wy.ev_k,Wy.ev_h,Wy.ev_bn,Wy.ev_d,Int.ofNat_eq_natCast,zcd,zbc,decide_true,decide_false,Bool.and_self,Bool.true_and,Bool.and_true,cond_true,cond_false,Int.toNat_natCast,eqR,eqR',Bool.not_true,Bool.not_false,bnd,hi,zI1 _ b hb];obtain ⟨r,h1,h3⟩:=zTQ l b hl hb n (i+1) (by omega) (by omega)
   rw [zJ (by omega),h1]
   by_cases hx:l.getD i default∈b
   ·refine ⟨.inl (i:Int),by simp only [hx,decide_true,cond_true],.inl ⟨i,rfl,Nat.le_refl _,hi,hx, ?_, ?_⟩⟩
    ·rw [List.drop_take,Nat.sub_self]; simp
    ·rw [List.drop_take,Nat.sub_self]; simp
   ·refine ⟨r,by simp only [hx,decide_false,cond_false], ?_⟩
    rcases h3 with ⟨j,rfl,h4,h5,h6,h7,h8⟩ | ⟨rfl,h4⟩
    ·have e:(l.take j).drop i=l.getD i default::(l.take j).drop (i+1):=by
      rw [List.drop_take,List.drop_take,zY hi,show j - i=(j - (i+1))+1 by omega,List.take_succ_cons]
     refine .inl ⟨j,rfl,by omega,h5,h6, ?_, ?_⟩
     ·rw [zY hi,h7,e]; rfl
     ·rw [e];intro x hx';rcases qd.1 hx' with rfl | hx'
      ·exact hx
      ·exact h8 x hx'
    ·refine .inr ⟨rfl, ?_⟩;rw [zY hi];intro x hx';rcases qd.1 hx' with rfl | hx'
     ·exact hx
     ·exact h4 x hx'
  ·simp only [Wy.ev_i,Wy.ev_k,Wy.ev_h,Wy.ev_bn,Wy.ev_d,Int.ofNat_eq_natCast,zcd,zbc,decide_true,decide_false,Bool.and_self,Bool.true_and,Bool.and_true,cond_true,cond_false,Int.toNat_natCast,eqR,eqR',Bool.not_true,Bool.not_false,bnd,hi];exact ⟨_,rfl,.inr ⟨rfl,by rw [zce hi]; simp⟩⟩
theorem zZS (l b:yF) (hl:l.length<=1000000) (hb:b.length<=1000000):
  (∃ j:Nat,zcm l b=(true,(j:Int))/\j<l.length/\l.getD j default∈b/\∀ x∈l.take j,x∉b)\/(zcm l b=(true, -1)/\∀ x∈l,x∉b):=by
 rw [zxI];obtain ⟨r,h1,h2⟩:=zTQ l b hl hb (l.length+b.length+(Int.ofNat l.length).toNat +Int.toNat 0+1) 0 (by simp; omega) (by omega)
 rw [show (0:Int)=((0:Nat):Int) from rfl] at *
 rw [show Int.ofNat l.length=(l.length:Int) from rfl] at *
 rw [h1];simp only [List.drop_zero] at h2;rcases h2 with ⟨j,rfl,_,h3,h4,_,h5⟩ | ⟨rfl,h3⟩
 ·exact .inl ⟨j,rfl,h3,h4,h5⟩
 ·exact .inr ⟨rfl,h3⟩
theorem zFQ (b:yF) (hb:b.length<=1000000):∀ (n i j:Nat) (s:yF),s.length<=1000000->s.length<j+n->j<=s.length->i<=j->
  ∃ (i':Nat) (s':yF),zc8 n b i j s=(true,((i':Int),s'))/\s'.length=s.length/\i'<=s.length/\s'.take i'=s.take i++(s.drop j).filter λx=> !decide (x∈b)
 | 0,i,j,s,hs,h,h2,h3=>by omega
 | n+1,i,j,s,hs,h,h2,h3=>by
  rw [zuH];unfold zf7;by_cases hj:j<s.length
  ·have hi:i<s.length:=by omega
   simp only [Wy.ev_i,Wy.ev_k,Wy.ev_h,Wy.ev_bn,Wy.ev_d,Int.ofNat_eq_natCast,zcd,zbc,decide_true,decide_false,Bool.and_self,Bool.true_and,Bool.and_true,cond_true,cond_false,Int.toNat_natCast,eqR,eqR',Bool.not_true,Bool.not_false,bnd,hj,hi,zI1 _ b hb];rw [zY hj];by_cases hx:s.getD j default∈b
   ·simp only [Wy.ev_i,Wy.ev_k,Wy.ev_h,Wy.ev_bn,Wy.ev_d,Int.ofNat_eq_natCast,zcd,zbc,decide_true,decide_false,Bool.and_self,Bool.true_and,Bool.and_true,cond_true,cond_false,Int.toNat_natCast,eqR,eqR',Bool.not_true,Bool.not_false,bnd,hx,List.filter_cons,Bool.false_eq_true,if_false];rw [zJ (by omega)]
    exact zFQ b hb n i (j+1) s hs (by omega) (by omega) (by omega)
   ·simp only [Wy.ev_i,Wy.ev_k,Wy.ev_h,Wy.ev_bn,Wy.ev_d,Int.ofNat_eq_natCast,zcd,zbc,decide_true,decide_false,Bool.and_self,Bool.true_and,Bool.and_true,cond_true,cond_false,Int.toNat_natCast,eqR,eqR',Bool.not_true,Bool.not_false,bnd,hx,List.filter_cons,if_true];rw [zJ (by omega),zJ (by omega)]
    obtain ⟨i',s',h4,h5,h6,h7⟩:=zFQ b hb n (i+1) (j+1) (s.set i (s.getD j default)) (by simpa using hs) (by simp; omega) (by simp; omega) (by omega)
    refine ⟨i',s',h4,by simpa using h5,by simpa using h6, ?_⟩
    rw [h7,zDB _ hi,zRP _ (by omega)]
    simp
  ·simp only [Wy.ev_i,Wy.ev_k,Wy.ev_h,Wy.ev_bn,Wy.ev_d,Int.ofNat_eq_natCast,zcd,zbc,decide_true,decide_false,Bool.and_self,Bool.true_and,Bool.and_true,cond_true,cond_false,Int.toNat_natCast,eqR,eqR',Bool.not_true,Bool.not_false,bnd,hj];exact ⟨i,s,rfl,rfl,by omega,by rw [zce hj]; simp⟩
theorem zVy (s b:yF) (hs:s.length<=1000000) (hb:b.length<=1000000):zcG s b=(true,s.filter λx=> !decide (x∈b)):=by
 rw [zwR];rcases zZS s b hs hb with ⟨j,h1,h2,h3,h4⟩ | ⟨h1,h2⟩
 ·rw [h1];have e:((j:Int)== -1)=false:=by simp
  simp only [bnd,cond_true,e,cond_false];rw [zJ (by omega)]
  obtain ⟨i',s',h5,h6,h7,h8⟩:=zFQ b hb (b.length+(j:Int).toNat +((j+1:Nat):Int).toNat +s.length+1) j (j+1) s hs (by simp; omega) (by omega) (by omega)
  rw [h5];have h7':i'<=s'.length:=by omega
  have e2:i'+(s'.length - i')<=s'.length:=by omega
  have e3:i'<=(List.take i' s'++List.replicate (s'.length - i') (RowID.mk 0 0)++List.drop (i'+(s'.length - i')) s').length:=by simp; omega
  simp only [Int.ofNat_eq_natCast,Int.toNat_natCast,zbc,zqJ,h7',e2,e3,Nat.le_refl,decide_true,Bool.and_self,cond_true,Int.le_refl,Int.toNat_zero,Nat.sub_zero];rw [zW7 _ h7',h8];congr 1
  conv=>rhs; rw [<- List.take_append_drop j s,List.filter_append,zY h2,List.filter_cons]
  simp only [h3,decide_true,Bool.not_true,Bool.false_eq_true,if_false];congr 1;refine (List.filter_eq_self.2 λx hx=> ?_).symm
  simp [h4 x hx]
 ·rw [h1];simp only [bnd,cond_true];have:s.filter (λx=> !decide (x∈b))=s:=List.filter_eq_self.2 λx hx=>by simp [h2 x hx]
  rw [this]; rfl
abbrev pR (x y:RowID):Bool:=decide (x=y)
theorem zW9:∀ (n k k0 m k2:Nat) (s:yF) (x:RowID) (rest:yF),s.length<=1000000->k0+m=s.length->1<=k2->k2<=m->k<=k0+k2 - 1->s.drop (k0+k2 - 1)=x::rest->m<k2+n->
  ∃ (k':Nat) (s':yF),zeI n k k0 m k2 s=(true,((k':Int),s'))/\s'.length=s.length/\k'<=s.length/\s'.take k'=s.take k++zeh pR x rest
 | 0,k,k0,m,k2,s,x,rest,hs,hm,h1,h2,h3,hd,h4=>by omega
 | n+1,k,k0,m,k2,s,x,rest,hs,hm,h1,h2,h3,hd,h4=>by
  rw [zwP];unfold zhi;by_cases hk:k2<m
  ·have hk1:k2 - 1<m:=by omega
   have hkl:k<s.length:=by omega
   rw [zno (by omega) (by omega)]
   simp only [Wy.ev_i,Wy.ev_k,Wy.ev_h,Wy.ev_bn,Wy.ev_d,Int.ofNat_eq_natCast,zcd,zbc,decide_true,decide_false,Bool.and_self,Bool.true_and,Bool.and_true,cond_true,cond_false,Int.toNat_natCast,eqR,eqR',Bool.not_true,Bool.not_false,bnd,hk,hk1,hkl];have e1:k0+k2 - 1<s.length:=by omega
   have e2:k0+k2<s.length:=by omega
   have e3:k0+(k2 - 1)=k0+k2 - 1:=by omega
   rw [zY e1,show k0+k2 - 1+1=k0+k2 by omega] at hd
   obtain ⟨hx,hr⟩:=List.cons.inj hd;rw [e3,hx, <- hr,zY e2];generalize hy:s.getD (k0+k2) default=y;by_cases hxy:y=x
   ·subst hxy;simp only [decide_true,Bool.not_true,cond_false,zeh,pR,cond_true];rw [zJ (by omega)]
    exact zW9 n k k0 m (k2+1) s y _ hs hm (by omega) (by omega) (by omega) (by rw [show k0+(k2+1) - 1=k0+k2 by omega,zY e2,hy]) (by omega)
   ·simp only [hxy,decide_false,Bool.not_false,cond_true,zeh,pR,cond_false];rw [zJ (by omega),zJ (by omega)]
    obtain ⟨k',s',h5,h6,h7,h8⟩:=zW9 n (k+1) k0 m (k2+1) (s.set k y) y (s.drop (k0+k2+1)) (by simpa using hs) (by simpa using hm) (by omega) (by omega) (by omega)
     (by rw [show k0+(k2+1) - 1=k0+k2 by omega,zRP _ (by omega),zY e2,hy]) (by omega)
    refine ⟨k',s',h5,by simpa using h6,by simpa using h7, ?_⟩
    rw [h8,zDB _ hkl]; simp
  ·simp only [Wy.ev_i,Wy.ev_k,Wy.ev_h,Wy.ev_bn,Wy.ev_d,Int.ofNat_eq_natCast,zcd,zbc,decide_true,decide_false,Bool.and_self,Bool.true_and,Bool.and_true,cond_true,cond_false,Int.toNat_natCast,eqR,eqR',Bool.not_true,Bool.not_false,bnd,hk];refine ⟨k,s,rfl,rfl,by omega, ?_⟩
   have:rest=[]:=by
    have h5:=congrArg List.length hd;simp at h5;exact List.eq_nil_of_length_eq_zero (by omega)
   rw [this]; simp [zeh]
theorem z5u:∀ (n k:Nat) (s:yF),s.length<=1000000->1<=k->k<=s.length->s.length<k+n->adj pR s=s.take k++zeh pR (s.getD (k - 1) default) (s.drop k)->
  ∃ r,zdy n k s=(true,r)/\((∃ (m:Nat) (s':yF),r=.inl (m,s')/\s'.take m=adj pR s)\/(r=.inr s/\adj pR s=s))
 | 0,k,s,hs,h1,h2,h3,ha=>by omega
 | n+1,k,s,hs,h1,h2,h3,ha=>by
  rw [zwL];unfold zhh;by_cases hk:k<s.length
  ·have hk1:k - 1<s.length:=by omega
   have hkl:k<=s.length:=by omega
   rw [zno (by omega) (by omega)]
   simp only [Wy.ev_i,Wy.ev_k,Wy.ev_h,Wy.ev_bn,Wy.ev_d,Int.ofNat_eq_natCast,zcd,zqJ,zbc,hk,hk1,hkl,Nat.le_refl,decide_true,Bool.and_self,cond_true,Int.toNat_natCast,eqR];rw [zY hk] at ha;by_cases hxy:s.getD k default=s.getD (k - 1) default
   ·simp only [hxy,decide_true,cond_true]
    obtain ⟨k',s',h5,h6,h7,h8⟩:=zW9 (k+k+(s.length - k)+Int.toNat 1+s.length+1) k k (s.length - k) 1 s (s.getD k default) (s.drop (k+1)) hs (by omega) (by omega) (by omega) (by omega)
     (by rw [show k+1 - 1=k by omega,zY hk]) (by omega)
    rw [show (1:Int)=((1:Nat):Int) from rfl] at *
    rw [h5];have h7':k'<=s'.length:=by omega
    have e2:k'+(s'.length - k')<=s'.length:=by omega
    have e3:k'<=(List.take k' s'++List.replicate (s'.length - k') (RowID.mk 0 0)++List.drop (k'+(s'.length - k')) s').length:=by simp; omega
    simp only [Wy.ev_i,Wy.ev_k,Wy.ev_h,Wy.ev_bn,Wy.ev_d,bnd,Int.ofNat_eq_natCast,Int.toNat_natCast,zbc,zqJ,h7',e2,e3,Nat.le_refl,decide_true,Bool.and_self,cond_true,Int.le_refl,Int.toNat_zero,Nat.sub_zero];refine ⟨_,rfl,.inl ⟨_,_,rfl, ?_⟩⟩;rw [zW7 _ h7',h8,ha];simp only [zeh,pR,hxy,decide_true,cond_true]
   ·simp only [hxy,decide_false,cond_false];rw [zJ (by omega)]
    refine z5u n (k+1) s hs (by omega) (by omega) (by omega) ?_
    rw [ha,zqi hk];simp only [zeh,pR,hxy,decide_false,cond_false,Nat.add_sub_cancel];simp
  ·simp only [Wy.ev_i,Wy.ev_k,Wy.ev_h,Wy.ev_bn,Wy.ev_d,Int.ofNat_eq_natCast,zcd,zbc,decide_true,decide_false,Bool.and_self,Bool.true_and,Bool.and_true,cond_true,cond_false,Int.toNat_natCast,eqR,eqR',Bool.not_true,Bool.not_false,bnd,hk];refine ⟨_,rfl,.inr ⟨rfl, ?_⟩⟩;rw [ha,zce hk,List.take_of_length_le (by omega)]
   simp [zeh]
theorem z4H (s:yF) (hs:s.length<=1000000):zc9 s=(true,adj pR s):=by
 rw [zzj];have h2:decide (Int.ofNat s.length<2)=decide (s.length<2):=by simp; omega
 rw [h2];by_cases h:s.length<2
 ·simp only [h,decide_true,cond_true]
  match s,h with
  | [],_=>rfl
  | [x],_=>rfl
  | _::_::_,h=>simp at h; omega
 ·simp only [h,decide_false,cond_false]
  have ha:adj pR s=s.take 1++zeh pR (s.getD (1 - 1) default) (s.drop 1):=by
   cases s with
   | nil=>simp at h
   | cons x r=>simp [adj]
  obtain ⟨r,h3,h4⟩:=z5u (Int.toNat 1+s.length+1) 1 s hs (by omega) (by omega) (by simp; omega) ha
  rw [show (1:Int)=((1:Nat):Int) from rfl] at *
  rw [h3];rcases h4 with ⟨m,s',rfl,h4⟩ | ⟨rfl,h4⟩
  ·simp only [bnd,cond_true,isL,getL]; rw [h4]
  ·simp only [bnd,cond_true,isL,getR,cond_false]; rw [h4]
abbrev pS (x y:yF):Bool:=decide (x=y)
theorem zHI:∀ (n k k0 m k2:Nat) (s:yB) (x:yF) (rest:yB),(∀ z∈s,z.length<=1000000)->s.length<=1000000->k0+m=s.length->1<=k2->k2<=m->k<=k0+k2 - 1->s.drop (k0+k2 - 1)=x::rest->m<k2+n->
  ∃ (k':Nat) (s':yB),zdQ n k k0 m k2 s=(true,((k':Int),s'))/\s'.length=s.length/\k'<=s.length/\s'.take k'=s.take k++zeh pS x rest
 | 0,k,k0,m,k2,s,x,rest,hz,hs,hm,h1,h2,h3,hd,h4=>by omega
 | n+1,k,k0,m,k2,s,x,rest,hz,hs,hm,h1,h2,h3,hd,h4=>by
  rw [zsb];unfold zfl;by_cases hk:k2<m
  ·have hk1:k2 - 1<m:=by omega
   have hkl:k<s.length:=by omega
   have e1:k0+k2 - 1<s.length:=by omega
   have e2:k0+k2<s.length:=by omega
   have e3:k0+(k2 - 1)=k0+k2 - 1:=by omega
   rw [zno (by omega) (by omega)]
   simp only [Wy.ev_i,Wy.ev_k,Wy.ev_h,Wy.ev_bn,Wy.ev_d,Int.ofNat_eq_natCast,zcd,zbc,decide_true,decide_false,Bool.and_self,Bool.true_and,Bool.and_true,cond_true,cond_false,Int.toNat_natCast,eqR,eqR',Bool.not_true,Bool.not_false,bnd,hk,hk1,hkl,zGW _ _ (hz _ (zI e2))];rw [zY e1,show k0+k2 - 1+1=k0+k2 by omega] at hd
   obtain ⟨hx,hr⟩:=List.cons.inj hd;have hym:=hz _ (zI e2);rw [e3,hx, <- hr,zY e2];generalize hy:s.getD (k0+k2) default=y at hym;by_cases hxy:y=x
   ·subst hxy;simp only [decide_true,Bool.not_true,cond_false,zeh,pS,cond_true];rw [zJ (by omega)]
    exact zHI n k k0 m (k2+1) s y _ hz hs hm (by omega) (by omega) (by omega) (by rw [show k0+(k2+1) - 1=k0+k2 by omega,zY e2,hy]) (by omega)
   ·simp only [hxy,decide_false,Bool.not_false,cond_true,zeh,pS,cond_false];rw [zJ (by omega),zJ (by omega)]
    obtain ⟨k',s',h5,h6,h7,h8⟩:=zHI n (k+1) k0 m (k2+1) (s.set k y) y (s.drop (k0+k2+1))
     (λz hz'=>by
      rcases List.mem_or_eq_of_mem_set hz' with h | h
      ·exact hz z h
      ·subst h; exact hym) (by simpa using hs) (by simpa using hm) (by omega) (by omega) (by omega)
     (by rw [show k0+(k2+1) - 1=k0+k2 by omega,zRP _ (by omega),zY e2,hy]) (by omega)
    refine ⟨k',s',h5,by simpa using h6,by simpa using h7, ?_⟩
    rw [h8,zDB _ hkl]; simp
  ·simp only [Wy.ev_i,Wy.ev_k,Wy.ev_h,Wy.ev_bn,Wy.ev_d,Int.ofNat_eq_natCast,zcd,zbc,decide_true,decide_false,Bool.and_self,Bool.true_and,Bool.and_true,cond_true,cond_false,Int.toNat_natCast,eqR,eqR',Bool.not_true,Bool.not_false,bnd,hk];refine ⟨k,s,rfl,rfl,by omega, ?_⟩
   have:rest=[]:=by
    have h5:=congrArg List.length hd;simp at h5;exact List.eq_nil_of_length_eq_zero (by omega)
   rw [this]; simp [zeh]
theorem zRc:∀ (n k:Nat) (s:yB),(∀ z∈s,z.length<=1000000)->s.length<=1000000->1<=k->k<=s.length->s.length<k+n->adj pS s=s.take k++zeh pS (s.getD (k - 1) default) (s.drop k)->
  ∃ r,zcM n k s=(true,r)/\((∃ (m:Nat) (s':yB),r=.inl (m,s')/\s'.take m=adj pS s)\/(r=.inr s/\adj pS s=s))
 | 0,k,s,hz,hs,h1,h2,h3,ha=>by omega
 | n+1,k,s,hz,hs,h1,h2,h3,ha=>by
  rw [zsg];unfold zff;by_cases hk:k<s.length
  ·have hk1:k - 1<s.length:=by omega
   have hkl:k<=s.length:=by omega
   rw [zno (by omega) (by omega)]
   simp only [Wy.ev_i,Wy.ev_k,Wy.ev_h,Wy.ev_bn,Wy.ev_d,Int.ofNat_eq_natCast,zcd,zqJ,zbc,hk,hk1,hkl,Nat.le_refl,decide_true,Bool.and_self,cond_true,Int.toNat_natCast,zGW _ _ (hz _ (zI hk))];rw [zY hk] at ha;by_cases hxy:s.getD k default=s.getD (k - 1) default
   ·simp only [hxy,decide_true,cond_true,bnd]
    obtain ⟨k',s',h5,h6,h7,h8⟩:=zHI (k+k+(s.length - k)+Int.toNat 1+s.length+1) k k (s.length - k) 1 s (s.getD k default) (s.drop (k+1)) hz hs (by omega) (by omega) (by omega) (by omega)
     (by rw [show k+1 - 1=k by omega,zY hk]) (by omega)
    rw [show (1:Int)=((1:Nat):Int) from rfl] at *
    rw [h5];have h7':k'<=s'.length:=by omega
    have e2:k'+(s'.length - k')<=s'.length:=by omega
    have e3:k'<=(List.take k' s'++List.replicate (s'.length - k') []++List.drop (k'+(s'.length - k')) s').length:=by simp; omega
    simp only [Wy.ev_i,Wy.ev_k,Wy.ev_h,Wy.ev_bn,Wy.ev_d,bnd,Int.ofNat_eq_natCast,Int.toNat_natCast,zbc,zqJ,h7',e2,e3,Nat.le_refl,decide_true,Bool.and_self,cond_true,Int.le_refl,Int.toNat_zero,Nat.sub_zero];refine ⟨_,rfl,.inl ⟨_,_,rfl, ?_⟩⟩;rw [zW7 _ h7',h8,ha];simp only [zeh,pS,hxy,decide_true,cond_true]
   ·simp only [hxy,decide_false,cond_false,bnd,cond_true];rw [zJ (by omega)]
    refine zRc n (k+1) s hz hs (by omega) (by omega) (by omega) ?_
    rw [ha,zqi hk];simp only [zeh,pS,hxy,decide_false,cond_false,Nat.add_sub_cancel];simp
  ·simp only [Wy.ev_i,Wy.ev_k,Wy.ev_h,Wy.ev_bn,Wy.ev_d,Int.ofNat_eq_natCast,zcd,zbc,decide_true,decide_false,Bool.and_self,Bool.true_and,Bool.and_true,cond_true,cond_false,Int.toNat_natCast,eqR,eqR',Bool.not_true,Bool.not_false,bnd,hk];refine ⟨_,rfl,.inr ⟨rfl, ?_⟩⟩;rw [ha,zce hk,List.take_of_length_le (by omega)]
   simp [zeh]
theorem zT2 (s:yB) (hz:∀ z∈s,z.length<=1000000) (hs:s.length<=1000000):zcp s=(true,adj pS s):=by
 rw [zuo];have h2:decide (Int.ofNat s.length<2)=decide (s.length<2):=by simp; omega
 rw [h2];by_cases h:s.length<2
 ·simp only [h,decide_true,cond_true]
  match s,h with
  | [],_=>rfl
  | [x],_=>rfl
  | _::_::_,h=>simp at h; omega
 ·simp only [h,decide_false,cond_false]
  have ha:adj pS s=s.take 1++zeh pS (s.getD (1 - 1) default) (s.drop 1):=by
   cases s with
   | nil=>simp at h
   | cons x r=>simp [adj]
  obtain ⟨r,h3,h4⟩:=zRc (Int.toNat 1+s.length+1) 1 s hz hs (by omega) (by omega) (by simp; omega) ha
  rw [show (1:Int)=((1:Nat):Int) from rfl] at *
  rw [h3];rcases h4 with ⟨m,s',rfl,h4⟩ | ⟨rfl,h4⟩
  ·simp only [bnd,cond_true,isL,getL]; rw [h4]
  ·simp only [bnd,cond_true,isL,getR,cond_false]; rw [h4]
theorem zZN (l:yF) (hl:l.length<=1000000):∃ ok:SortOK (λa b=>zeX a b) l,zc2 l=(true,zfK (λa b=>zeX a b) l):=by
 have ok:SortOK (λa b=>zeX a b) l:=zbcH zis (by omega) λx _ y _=>zCC x y
 refine ⟨ok, ?_⟩;unfold zc2 zxL;rw [decide_eq_true ok]
theorem zy6 (l:yF) (hl:l.length<=1000000):zgC l=(true,nR l):=by
 rw [zYK];unfold zcl;have e1:l.length*16<=zP:=zDT (by omega) (by omega)
 obtain ⟨ok,h⟩:=zZN l hl;simp only [e1,decide_true,bnd,cond_true,h];rw [z4H _ (by rw [(zgr _ l).length_eq]; exact hl)]
 simp only [cond_true];rw [zbcU zis (λx y=>by simp) ok λx _ y _=>by rw [zCC]]
theorem z9s (a b:yF) (h:a.length+b.length<=1000000):zBd a b=(true,nR (a++b)):=by
 rw [z8b];unfold zcl;have e1:a.length*16<=zP:=zDT (by omega) (by omega)
 have e2:(a.length+b.length)*16<=zP:=zDT (by omega) (by omega)
 simp only [e1,e2,decide_true,bnd,cond_true];rw [zy6 (a++b) (by simp; omega)]; rfl
theorem z9E (a b:yF) (ha:a.length<=1000000) (hb:b.length<=1000000):zwb a b=(true,(nR a).filter λx=> !decide (x∈b)):=by
 rw [zbae];have h1:(nR a).length<=a.length:=zOj zis a;rw [zy6 a ha];simp only [bnd,cond_true];rw [zVy _ _ (by omega) hb]; rfl
theorem z6i (a b:yF) (ha:a.length<=1000000) (hb:b.length<=1000000):ztc a b=(true,a.all λx=>decide (x∈b)):=by
 rw [z7t];rw [z9E a b ha hb];simp only [bnd,cond_true];congr 1;have:(Int.ofNat ((nR a).filter λx=> !decide (x∈b)).length==(0:Int))=decide (((nR a).filter λx=> !decide (x∈b)).length=0):=zbmT _ 0
 rw [this,Bool.eq_iff_iff,qe,List.length_eq_zero_iff,List.filter_eq_nil_iff,List.all_eq_true];constructor
 ·intro h x hx;have:=h x ((zEm zis a x).2 hx)
  simpa using this
 ·intro h x hx;have:=h x ((zEm zis a x).1 hx)
  simpa using this
theorem z5G (l:yB) (hl:l.length<=1000000) (hz:∀ s∈l,s.length<=1000000):∀ (n i:Nat) (o:yB),l.length<i+n->i<=l.length->o.length<=i->zqN n l l.length i o=(true,o++(l.drop i).map nR)
 | 0,i,o,h,h2,h3=>by omega
 | n+1,i,o,h,h2,h3=>by
  rw [zZU];unfold zDW;by_cases hi:i<l.length
  ·have e1:(o.length+1)*24<=zP:=zDT (by omega) (by omega)
   simp only [Wy.ev_i,Wy.ev_k,Wy.ev_h,Wy.ev_bn,Wy.ev_d,Int.ofNat_eq_natCast,zcd,zbc,decide_true,decide_false,Bool.and_self,Bool.true_and,Bool.and_true,cond_true,cond_false,Int.toNat_natCast,eqR,eqR',Bool.not_true,Bool.not_false,bnd,hi,zy6 _ (hz _ (zI hi)),List.length_singleton,e1];rw [zJ (by omega),zY hi,z5G l hl hz n (i+1) _ (by omega) (by omega) (by simp; omega)]
   simp
  ·simp only [Wy.ev_i,Wy.ev_k,Wy.ev_h,Wy.ev_bn,Wy.ev_d,Int.ofNat_eq_natCast,zcd,zbc,decide_true,decide_false,Bool.and_self,Bool.true_and,Bool.and_true,cond_true,cond_false,Int.toNat_natCast,eqR,eqR',Bool.not_true,Bool.not_false,bnd,hi,zce hi]; simp
theorem zN1 (l:yB) (hl:l.length<=1000000) (hz:∀ s∈l,s.length<=1000000):zlS l=(true,fam l):=by
 rw [z6t];rw [show (0:Int)=((0:Nat):Int) from rfl,show Int.ofNat l.length=(l.length:Int) from rfl,z5G l hl hz _ 0 [] (by simp; omega) (by omega) (by simp)]
 simp only [bnd,cond_true,List.drop_zero,List.nil_append]
 have hz':∀ z∈l.map nR,z.length<=1000000:=λz hz''=>by
  obtain ⟨s,hs,rfl⟩:=List.mem_map.1 hz'';exact Nat.le_trans (z9v s) (hz s hs)
 have ok:SortOK (λa b=>zew a b) (l.map nR):=zbcH zUd (by simp; omega) λx hx y hy=>zEN x y (hz' x hx) (hz' y hy)
 have e:zcH (l.map nR)=(true,zfK (λa b=>zew a b) (l.map nR)):=by
  unfold zcH zxL;rw [decide_eq_true ok]
 rw [e];simp only [cond_true];rw [zT2 _ (λz h=>hz' z ((zgr _ _).mem_iff.1 h)) (by rw [(zgr _ _).length_eq]; simpa using hl)]
 simp only [cond_true];rw [zbcU zUd (λx y=>by simp) ok λx hx y hy=>by rw [zEN x y (hz' x hx) (hz' y hy)]]
theorem z0F (m:Nat) (hm:m<=1000000):∀ (n i:Nat) (o:List Int),m<i+n->i<=m->o.length=m->o.take i=(zH9 m).take i->zo5 n m i o=(true,zH9 m)
 | 0,i,o,h,h2,h3,h4=>by omega
 | n+1,i,o,h,h2,h3,h4=>by
  rw [zXr];unfold zCu;by_cases hi:i<m
  ·have hi':i<o.length:=by omega
   simp only [Wy.ev_i,Wy.ev_k,Wy.ev_h,Wy.ev_bn,Wy.ev_d,Int.ofNat_eq_natCast,zcd,zbc,decide_true,decide_false,Bool.and_self,Bool.true_and,Bool.and_true,cond_true,cond_false,Int.toNat_natCast,eqR,eqR',Bool.not_true,Bool.not_false,bnd,hi,hi'];rw [zJ (by omega)]
   refine z0F m hm n (i+1) _ (by omega) (by omega) (by simpa using h3) ?_
   rw [zDB _ hi',h4,zqi (by rw [zVC]; exact hi),zbfM hi]
  ·simp only [Wy.ev_i,Wy.ev_k,Wy.ev_h,Wy.ev_bn,Wy.ev_d,Int.ofNat_eq_natCast,zcd,zbc,decide_true,decide_false,Bool.and_self,Bool.true_and,Bool.and_true,cond_true,cond_false,Int.toNat_natCast,eqR,eqR',Bool.not_true,Bool.not_false,bnd,hi];have e:i=m:=by omega
   subst e;rw [List.take_of_length_le (by omega),List.take_of_length_le (by rw [zVC]; omega)] at h4
   rw [h4]
theorem z42 (m:Nat) (hm:m<=1000000):zvQ (m:Int)=(true,zH9 m):=by
 rw [z3S];have h1:decide ((0:Int)<=(m:Int))=true:=zbc m;have h2:decide ((m:Int)<=(m:Int))=true:=by simp
 have h3:decide ((m:Int)*Int.ofNat 8<=Int.ofNat zP)=true:=by
  have:m*8<=zP:=zDT (by omega) (by omega)
  simp only [qe,Int.ofNat_eq_natCast];omega
 have h4:decide ((m:Int)<=Int.ofNat zP)=true:=by
  have:m*1<=zP:=zDT (by omega) (by omega)
  simp only [qe,Int.ofNat_eq_natCast];omega
 rw [h1,h2,h3,h4];simp only [Bool.and_self,cond_true,Int.toNat_natCast,List.length_replicate,Int.ofNat_eq_natCast];rw [show (0:Int)=((0:Nat):Int) from rfl,z0F m hm _ 0 _ (by simp; omega) (by omega) (by simp) (by simp)]
 rfl
theorem zbdD (k i:Nat) (al:yB) (s:yF) (hk:k<al.length) (hz:∀ t∈al,t.length<=1000000) (hs:s.length<=1000000):zoO k i al s=(true,decide (k≠i)&&sub (al.getD k default) s):=by
 rw [zWQ];rw [zbhf];by_cases h:k=i
 ·simp [h]
 ·simp only [Wy.ev_i,Wy.ev_k,Wy.ev_h,Wy.ev_bn,Wy.ev_d,Int.ofNat_eq_natCast,zcd,zbc,decide_true,decide_false,Bool.and_self,Bool.true_and,Bool.and_true,cond_true,cond_false,Int.toNat_natCast,eqR,eqR',Bool.not_true,Bool.not_false,bnd,h,hk,ne_eq,not_false_eq_true,z6i _ _ (hz _ (zI hk)) hs];rfl
theorem zXP (al:yB) (s:yF) (j:Nat) (hl:al.length<=1000000) (hz:∀ t∈al,t.length<=1000000) (hs:s.length<=1000000):∀ (n i:Nat),al.length<i+n->i<=al.length->
  ∃ r,zf1 n (zH9 al.length) j al s al.length i=(true,r)/\(((∃ k:Nat,i<=k/\k<al.length/\k≠j/\sub (al.getD k default) s=true)/\∃ k:Nat,r=.inl (k:Int))\/((∀ k:Nat,i<=k->k<al.length->k≠j->sub (al.getD k default) s=false)/\r=.inr ()))
 | 0,i,h,h2=>by omega
 | n+1,i,h,h2=>by
  rw [zEX];unfold zmB;by_cases hi:i<al.length
  ·simp only [Wy.ev_i,Wy.ev_k,Wy.ev_h,Wy.ev_bn,Wy.ev_d,Int.ofNat_eq_natCast,zcd,zbc,hi,zVC,decide_true,Bool.and_self,cond_true,Int.toNat_natCast,zbfM hi,zbdD i j al s hi hz hs,bnd];obtain ⟨r,h1,h3⟩:=zXP al s j hl hz hs n (i+1) (by omega) (by omega)
   rw [zJ (by omega),h1]
   by_cases hp:i≠j/\sub (al.getD i default) s=true
   ·refine ⟨.inl (i:Int),by simp only [hp.1,hp.2,ne_eq,not_false_eq_true,decide_true,Bool.and_self,cond_true],.inl ⟨⟨i,Nat.le_refl _,hi,hp.1,hp.2⟩,i,rfl⟩⟩
   ·have e:(decide (i≠j)&&sub (al.getD i default) s)=false:=by
     cases hb:(decide (i≠j)&&sub (al.getD i default) s) with
     | false=>rfl
     | true=>rw [qc,qe] at hb; exact absurd hb hp
    refine ⟨r,by simp only [e,cond_false], ?_⟩
    rcases h3 with ⟨⟨k,h4,h5,h6,h7⟩,h8⟩ | ⟨h4,rfl⟩
    ·exact .inl ⟨⟨k,by omega,h5,h6,h7⟩,h8⟩
    ·refine .inr ⟨λk h5 h6 h7=> ?_,rfl⟩
     by_cases hk:k=i
     ·subst hk;cases hb:sub (al.getD k default) s with
      | false=>rfl
      | true=>exact absurd ⟨h7,hb⟩ hp
     ·exact h4 k (by omega) h6 h7
  ·simp only [Wy.ev_i,Wy.ev_k,Wy.ev_h,Wy.ev_bn,Wy.ev_d,Int.ofNat_eq_natCast,zcd,hi,decide_false,cond_false];exact ⟨_,rfl,.inr ⟨λk h5 h6=>by omega,rfl⟩⟩
theorem zbbI (al:yB) (hn:al.Nodup) (j:Nat) (hj:j<al.length) (hl:al.length<=1000000) (hz:∀ t∈al,t.length<=1000000):
  zfZ (zH9 al.length) j al (al.getD j default)=(true, !zzr al (al.getD j default)):=by
 have hs:=hz _ (zI hj)
 have h:∃ k:Int,zfs (zH9 al.length) j al (al.getD j default)=(true,k)/\(0<=k↔zzr al (al.getD j default)=false):=by
  rw [zHb];obtain ⟨r,h1,h2⟩:=zXP al (al.getD j default) j hl hz hs ((zH9 al.length).length+(j:Int).toNat +al.length+(al.getD j default).length+(Int.ofNat (zH9 al.length).length).toNat +Int.toNat 0+1) 0 (by simp; omega) (by omega)
  rw [show (0:Int)=((0:Nat):Int) from rfl] at *
  rw [show Int.ofNat (zH9 al.length).length=(al.length:Int) from by rw [zVC]; rfl] at *
  rw [h1];rcases h2 with ⟨⟨k,_,h3,h4,h5⟩,m,rfl⟩ | ⟨h3,rfl⟩
  ·refine ⟨(m:Int),rfl, ?_⟩
   have:zzr al (al.getD j default)=false:=by
    cases hb:zzr al (al.getD j default) with
    | false=>rfl
    | true=>
     have:=zQw.1 hb _ (zI h3) (zNo.1 h5);exact absurd (zbiZ hn hj h3 this) h4
   exact ⟨λ_=>this,λ_=>by omega⟩
  ·refine ⟨-1,rfl, ?_⟩
   have:zzr al (al.getD j default)=true:=by
    rw [zQw];intro t ht hsub;obtain ⟨k,hk,e⟩:=List.getElem_of_mem ht;have e':al.getD k default=t:=by rw [List.getD_eq_getElem?_getD,List.getElem?_eq_getElem hk]; exact e
    by_cases hkj:k=j
    ·subst hkj; exact e'.symm
    ·have:=h3 k (Nat.zero_le _) hk hkj;rw [e',zNo.2 hsub] at this;cases this
   exact ⟨λh=>by omega,λh=>by rw [this] at h; cases h⟩
 obtain ⟨k,h1,h2⟩:=h;rw [zE2];rw [h1];simp only [bnd,cond_true];congr 1;cases hb:zzr al (al.getD j default) with
 | true=>
  have:¬ 0<=k:=λh=>by rw [h2.1 h] at hb; cases hb
  simp; omega
 | false=>simp [h2.2 hb]
theorem zOV (al:yB) (hn:al.Nodup) (hl:al.length<=1000000) (hz:∀ t∈al,t.length<=1000000):∀ (n i:Nat) (o:yB),al.length<i+n->i<=al.length->o.length<=i->
  zo0 n al.length i o al=(true,o++(al.drop i).filter (zzr al))
 | 0,i,o,h,h2,h3=>by omega
 | n+1,i,o,h,h2,h3=>by
  rw [zVF];unfold zCD;by_cases hi:i<al.length
  ·have e1:(o.length+1)*24<=zP:=zDT (by omega) (by omega)
   simp only [Wy.ev_i,Wy.ev_k,Wy.ev_h,Wy.ev_bn,Wy.ev_d,Int.ofNat_eq_natCast,zcd,zbc,decide_true,decide_false,Bool.and_self,Bool.true_and,Bool.and_true,cond_true,cond_false,Int.toNat_natCast,eqR,eqR',Bool.not_true,Bool.not_false,bnd,hi,z42 _ hl,zbbI al hn i hi hl hz,List.length_singleton,e1,Bool.not_not];rw [zJ (by omega),zY hi]
   generalize al.getD i default=s;cases hb:zzr al s with
   | true=>
    simp only [cond_true,List.filter_cons,hb,if_true];rw [zOV al hn hl hz n (i+1) _ (by omega) (by omega) (by simp; omega)]
    simp
   | false=>
    simp only [cond_false,List.filter_cons,hb,Bool.false_eq_true,if_false];rw [zOV al hn hl hz n (i+1) _ (by omega) (by omega) (by omega)]
  ·simp only [Wy.ev_i,Wy.ev_k,Wy.ev_h,Wy.ev_bn,Wy.ev_d,Int.ofNat_eq_natCast,zcd,zbc,decide_true,decide_false,Bool.and_self,Bool.true_and,Bool.and_true,cond_true,cond_false,Int.toNat_natCast,eqR,eqR',Bool.not_true,Bool.not_false,bnd,hi,zce hi]; simp
theorem zLz (l:yB) (hl:l.length<=1000000) (hz:∀ s∈l,s.length<=1000000):zg0 l=(true,zuq l):=by
 rw [z4p];have h1:=zbbk l;rw [zN1 l hl hz];simp only [bnd,cond_true]
 rw [show (0:Int)=((0:Nat):Int) from rfl,show Int.ofNat (fam l).length=((fam l).length:Int) from rfl,
  zOV (fam l) (zFM zUd (zbhE l)) (by omega) (zbcJ hz) _ 0 [] (by simp; omega) (by omega) (by simp)]
 rfl
theorem z9V (b:yB) (x:yF) (t10:yB) (t11 t12:Int) (hl:b.length<=1000000) (hz:∀ y∈b,x.length+y.length<=1000000):∀ (n i:Nat) (o:yB),b.length<i+n->i<=b.length->o.length<=1000000000000+i->
  zvu n b x t10 t11 t12 b b.length i o=(true,(b,t10,t11,t12,o++(b.drop i).map λy=>nR (x++y)))
 | 0,i,o,h,h2,h3=>by omega
 | n+1,i,o,h,h2,h3=>by
  rw [zWV];unfold zCK;by_cases hi:i<b.length
  ·have e1:(o.length+1)*24<=zP:=by have:zP=70368744177664:=rfl; omega
   simp only [Wy.ev_i,Wy.ev_k,Wy.ev_h,Wy.ev_bn,Wy.ev_d,Int.ofNat_eq_natCast,zcd,zbc,decide_true,decide_false,Bool.and_self,Bool.true_and,Bool.and_true,cond_true,cond_false,Int.toNat_natCast,eqR,eqR',Bool.not_true,Bool.not_false,bnd,hi,z9s _ _ (hz _ (zI hi)),List.length_singleton,e1];rw [zJ (by omega),zY hi,z9V b x t10 t11 t12 hl hz n (i+1) _ (by omega) (by omega) (by simp; omega)]
   simp
  ·simp only [Wy.ev_i,Wy.ev_k,Wy.ev_h,Wy.ev_bn,Wy.ev_d,Int.ofNat_eq_natCast,zcd,zbc,decide_true,decide_false,Bool.and_self,Bool.true_and,Bool.and_true,cond_true,cond_false,Int.toNat_natCast,eqR,eqR',Bool.not_true,Bool.not_false,bnd,hi,zce hi]; simp
theorem z1q (a b:yB) (ha:a.length<=1000000) (hb:b.length<=1000000) (hz:∀ x∈a,∀ y∈b,x.length+y.length<=1000000):∀ (n i:Nat) (o:yB),a.length<i+n->i<=a.length->o.length<=1000000*i->
  zo3 n b a a.length i o=(true,o++(a.drop i).flatMap λx=>b.map λy=>nR (x++y))
 | 0,i,o,h,h2,h3=>by omega
 | n+1,i,o,h,h2,h3=>by
  rw [zWK];unfold zCH;by_cases hi:i<a.length
  ·simp only [Wy.ev_i,Wy.ev_k,Wy.ev_h,Wy.ev_bn,Wy.ev_d,Int.ofNat_eq_natCast,zcd,zbc,decide_true,decide_false,Bool.and_self,Bool.true_and,Bool.and_true,cond_true,cond_false,Int.toNat_natCast,eqR,eqR',Bool.not_true,Bool.not_false,bnd,hi];rw [show (0:Int)=((0:Nat):Int) from rfl,z9V b (a.getD i default) a a.length i hb (hz _ (zI hi)) _ 0 o (by simp; omega) (by omega) (by omega)]
   simp only [cond_true,List.drop_zero];rw [zJ (by omega),zY hi,z1q a b ha hb hz n (i+1) _ (by omega) (by omega) (by simp; omega)]
   simp [List.flatMap_cons]
  ·simp only [Wy.ev_i,Wy.ev_k,Wy.ev_h,Wy.ev_bn,Wy.ev_d,Int.ofNat_eq_natCast,zcd,zbc,decide_true,decide_false,Bool.and_self,Bool.true_and,Bool.and_true,cond_true,cond_false,Int.toNat_natCast,eqR,eqR',Bool.not_true,Bool.not_false,bnd,hi,zce hi]; simp
theorem z3X (a b:yB) (ha:a.length<=1000000) (hb:b.length<=1000000) (hm:a.length*b.length<=1000000) (hz:∀ x∈a,∀ y∈b,x.length+y.length<=1000000):zmF a b=(true,prod a b):=by
 rw [z4x];rw [show (0:Int)=((0:Nat):Int) from rfl,show Int.ofNat a.length=(a.length:Int) from rfl,z1q a b ha hb hz _ 0 [] (by simp; omega) (by omega) (by simp)]
 simp only [bnd,cond_true,List.drop_zero,List.nil_append]
 rw [zN1 _ (by rw [flat_len']; exact hm) λs hs=>by
  obtain ⟨x,hx,hs⟩:=List.mem_flatMap.1 hs;obtain ⟨y,hy,rfl⟩:=List.mem_map.1 hs;have h1:=hz x hx y hy;have h2:=z9v (x++y);simp at h2; omega]
 rfl
end Go.Proofs.YtljlfiomikifjaaGreatDoor
end
