/- Texts of this claim, joined (the program, its functions in plain words, and what they compute). -/
import Derived.Test.YtljlfiomikifjaaGreatDoorGC6
set_option autoImplicit false
set_option linter.unusedVariables false
set_option linter.unusedSectionVars false
set_option linter.unusedSimpArgs false
set_option maxRecDepth 1000000
set_option maxHeartbeats 0
/- Families of sets of row identifiers: minimal sets and products. No program in sight. -/
noncomputable section
namespace Go.Proofs.YtljlfiomikifjaaGreatDoor
open Go Go.Ab
def cR (a b:RowID):Int:=if a.Table<b.Table then -1 else if b.Table<a.Table then 1 else if a.Seq<b.Seq then -1 else if b.Seq<a.Seq then 1 else 0
theorem ziE:Ord3 cR where
 eq:=λx y=>by
  obtain ⟨a,b⟩:=x; obtain ⟨c,d⟩:=y;simp only [cR,RowID.mk.injEq]
  repeat' split
  all_goals omega
 swap:=λx y=>by
  simp only [cR]
  repeat' split
  all_goals omega
 trans:=λx y z=>by
  simp only [cR]
  repeat' split
  all_goals omega
theorem eqR' (a b:RowID):(a.Table==b.Table&&a.Seq==b.Seq)=decide (a=b):=by
 obtain ⟨p,q⟩:=a; obtain ⟨r,s⟩:=b;by_cases h1:p=r <;>by_cases h2:q=s <;>simp [h1,h2]
theorem eqR (a b:RowID):(a.Table==b.Table&&(a.Seq==b.Seq&&true))=decide (a=b):=by
 rw [Bool.and_true,eqR']
abbrev cS:yF->yF->Int:=zv9 cR
theorem zpL:Ord3 cS:=zbek ziE
abbrev nR:yF->yF:=zEb cR
abbrev fam (l:yB):yB:=zEb cS (l.map nR)
def sub (a b:yF):Bool:=a.all λx=>decide (x∈b)
theorem zzP {a b:yF}:sub a b=true↔∀ x∈a,x∈b:=by simp [sub]
theorem zFB {l:yB} {z:yF}:z∈fam l↔∃ s∈l,nR s=z:=by
 rw [zCo zpL,List.mem_map]
theorem zYN (l:yB):zhU cS (fam l):=zyW zpL _
theorem zFK {l:yB} {z:yF} (h:z∈fam l):zhU cR z:=by
 obtain ⟨s,_,rfl⟩:=zFB.1 h;exact zyW ziE s
theorem z5X (l:yB):(fam l).length<=l.length:=by
 have:=zKI zpL (l.map nR)
 simpa using this
theorem zQH (l:yF):(nR l).length<=l.length:=zKI ziE l
theorem zVT {l:yF} {z:RowID}:z∈nR l↔z∈l:=zCo ziE l z
theorem zQc {l:yF} (h:zhU cR l):nR l=l:=zSt ziE h
theorem z7x {l:yB} {k:Nat} (h:∀ s∈l,s.length<=k):∀ s∈fam l,s.length<=k:=λs hs=>by
 obtain ⟨t,ht,rfl⟩:=zFB.1 hs;exact Nat.le_trans (zQH t) (h t ht)
def zyj (al:yB) (s:yF):Bool:=al.all λt=> !(decide (t≠s)&&sub t s)
theorem zNT {al:yB} {s:yF}:zyj al s=true↔∀ t∈al,(∀ x∈t,x∈s)->t=s:=by
 unfold zyj;rw [List.all_eq_true];constructor
 ·intro h t ht hs;have:=h t ht;rw [zzP.2 hs] at this
  simpa using this
 ·intro h t ht;by_cases hs:sub t s=true
  ·have:=h t ht (zzP.1 hs);simp [this]
  ·simp [hs]
theorem zbcd {al:yB} (hn:al.Nodup) {i k:Nat} (hi:i<al.length) (hk:k<al.length) (h:al.getD k default=al.getD i default):k=i:=by
 rw [List.getD_eq_getElem?_getD,List.getElem?_eq_getElem hk,List.getD_eq_getElem?_getD,List.getElem?_eq_getElem hi] at h;exact (List.getElem_inj hn).1 h
abbrev zim (l:yB):yB:=(fam l).filter (zyj (fam l))
abbrev prod (a b:yB):yB:=fam (a.flatMap λx=>b.map λy=>nR (x++y))
theorem z2e {a b:yB} {z:yF}:z∈prod a b↔∃ x∈a,∃ y∈b,nR (x++y)=z:=by
 rw [zFB];constructor
 ·rintro ⟨s,hs,rfl⟩
  obtain ⟨x,hx,hs⟩:=List.mem_flatMap.1 hs;obtain ⟨y,hy,rfl⟩:=List.mem_map.1 hs;exact ⟨x,hx,y,hy,(zQc (zyW ziE _)).symm⟩
 ·rintro ⟨x,hx,y,hy,rfl⟩
  exact ⟨nR (x++y),List.mem_flatMap.2 ⟨x,hx,List.mem_map.2 ⟨y,hy,rfl⟩⟩,zQc (zyW ziE _)⟩
theorem zSL {a b:yB} {p q:Nat} (ha:∀ x∈a,x.length<=p) (hb:∀ y∈b,y.length<=q):∀ z∈prod a b,z.length<=p+q:=λz hz=>by
 obtain ⟨x,hx,y,hy,rfl⟩:=z2e.1 hz;have:=zQH (x++y);have h1:=ha x hx;have h2:=hb y hy;simp at this; omega
theorem flat_len' (a b:yB):(a.flatMap λx=>b.map λy=>nR (x++y)).length=a.length*b.length:=by
 rw [zF0 (λx=>b.map λy=>nR (x++y)) b.length (λx=>by simp)]
theorem z2k (a b:yB):(prod a b).length<=a.length*b.length:=by
 have:=z5X (a.flatMap λx=>b.map λy=>nR (x++y))
 rw [flat_len'] at this;exact this
theorem zbdx {a b:yF} (ha:zhU cR a) (hb:zhU cR b) (h1:∀ x∈a,x∈b) (h2:∀ x∈b,x∈a):a=b:=zBp ziE ha hb λx=>⟨h1 x,h2 x⟩
theorem zbgD {a b:yF} (ha:zhU cR a) (hb:zhU cR b) (h1:∀ x∈a,x∈b) (hne:a≠b):a.length<b.length:=by
 by_cases h:∀ x∈b,x∈a
 ·exact absurd (zbdx ha hb h1 h) hne
 ·obtain ⟨x,hx⟩:=Classical.not_forall.1 h;obtain ⟨hxb,hxa⟩:=Classical.not_imp.1 hx
  have:=zkB (l:=x::a) (l':=b) (List.nodup_cons.2 ⟨hxa,zR7 ziE ha⟩) λy hy=>by
   rcases qd.1 hy with rfl | hy
   ·exact hxb
   ·exact h1 y hy
  simp at this; omega
theorem z7f (al:yB) (hs:∀ s∈al,zhU cR s):∀ (n:Nat) (s:yF),s.length<=n->s∈al->∃ t∈al,zyj al t=true/\∀ x∈t,x∈s
 | n,s,hn,hm=>by
  by_cases h:zyj al s=true
  ·exact ⟨s,hm,h,λx hx=>hx⟩
  ·have h':¬ ∀ t∈al,(∀ x∈t,x∈s)->t=s:=λh'=>h (zNT.2 h')
   obtain ⟨t,ht⟩:=Classical.not_forall.1 h';obtain ⟨htm,ht⟩:=Classical.not_imp.1 ht;obtain ⟨hts,hne⟩:=Classical.not_imp.1 ht;have hlt:=zbgD (hs t htm) (hs s hm) hts hne;cases n with
   | zero=>omega
   | succ n=>
    obtain ⟨u,hu,hl,hsub⟩:=z7f al hs n t (by omega) htm
    exact ⟨u,hu,hl,λx hx=>hts x (hsub x hx)⟩
theorem ztB {l:yB} {z:yF}:z∈zim l↔z∈fam l/\∀ t∈fam l,(∀ x∈t,x∈z)->t=z:=by
 rw [List.mem_filter,zNT]
theorem z9K {l:yB} {s:yF} (h:s∈fam l):∃ t∈zim l,∀ x∈t,x∈s:=by
 obtain ⟨t,h1,h2,h3⟩:=z7f (fam l) (λs hs=>zFK hs) s.length s (Nat.le_refl _) h
 exact ⟨t,List.mem_filter.2 ⟨h1,h2⟩,h3⟩
theorem zSQ (l:yB):zhU cS (zim l):=(zYN l).filter _
theorem zMa (l:yB):(zim l).length<=l.length:=Nat.le_trans (List.length_filter_le _ _) (z5X l)
theorem zD2 {l:yB} {k:Nat} (h:∀ s∈l,s.length<=k):∀ s∈zim l,s.length<=k:=λs hs=>z7x h s (List.mem_filter.1 hs).1
theorem z9H {l:yB} (h:zhU cS l) (hs:∀ s∈l,zhU cR s):fam l=l:=by
 have:l.map nR=l:=by
  conv=>rhs; rw [<- List.map_id l]
  exact List.map_congr_left λs h=>zQc (hs s h)
 unfold fam; rw [this];exact zSt zpL h
theorem zbbQ {p q:yB} (h1:∀ z∈fam q,z∈fam p) (h2:∀ z∈fam p,∃ t∈fam q,∀ x∈t,x∈z):zim p=zim q:=by
 refine zBp zpL (zSQ p) (zSQ q) λz=> ?_
 rw [ztB,ztB];constructor
 ·rintro ⟨hz,hm⟩
  obtain ⟨t,ht,hs⟩:=h2 z hz;have:=hm t (h1 t ht) hs;subst this;exact ⟨ht,λu hu=>hm u (h1 u hu)⟩
 ·rintro ⟨hz,hm⟩
  refine ⟨h1 z hz,λt ht hs=> ?_⟩
  obtain ⟨u,hu,hus⟩:=h2 t ht;have:=hm u hu λx hx=>hs x (hus x hx)
  subst this;exact zbdx (zFK ht) (zFK hz) hs hus
mutual
def ze4:At->yB
 | ⟨k,r,a,_,_,_,_⟩=>if k=2 then (zJA a).getD 0 default else [[r]]
def zct:yD->yB->yB
 | [],s=>s
 | ⟨x,_⟩::r,s=>zct r (zim (prod s (ze4 x)))
def zeN:yC->yB
 | []=>[]
 | ⟨_,fs⟩::r=>zct fs [[]]++zeN r
def zJA:yA->List (yB)
 | []=>[]
 | a::r=>zim (zeN a)::zJA r
end
def zBM (a:yC):yB:=zim (zeN a)
mutual
def zDh:At->Bool
 | ⟨k,_,a,_,_,_,_⟩=>k==0||(k==2&&(z5d a).getD 0 true)
def zi1:yD->Bool
 | []=>true
 | ⟨x,_⟩::r=>zDh x&&zi1 r
def zwy:yC->Bool
 | []=>true
 | ⟨_,fs⟩::r=>zi1 fs&&zwy r
def z5d:yA->List Bool
 | []=>[]
 | a::r=>zwy a::z5d r
end
mutual
def z9g (S:yF):At->Prop
 | ⟨k,r,a,_,_,_,_⟩=>if k=2 then (zLU S a).getD 0 False else r∈S
def zHi (S:yF):yD->Prop
 | []=>True
 | ⟨x,_⟩::r=>z9g S x/\zHi S r
def zYK (S:yF):yC->Prop
 | []=>False
 | ⟨_,fs⟩::r=>zHi S fs\/zYK S r
def zLU (S:yF):yA->List Prop
 | []=>[]
 | a::r=>zYK S a::zLU S r
end
def zuF (S:yF) (l:yB):Prop:=∃ s∈l,∀ x∈s,x∈S
theorem z7g (S:yF) (l:yB):zuF S (zim l)↔zuF S l:=by
 constructor
 ·rintro ⟨s,hs,h⟩
  obtain ⟨u,hu,e⟩:=zFB.1 (ztB.1 hs).1;exact ⟨u,hu,λx hx=>h x (by rw [<- e]; exact zVT.2 hx)⟩
 ·rintro ⟨u,hu,h⟩
  obtain ⟨t,ht,hts⟩:=z9K (zFB.2 ⟨u,hu,rfl⟩);exact ⟨t,ht,λx hx=>h x (zVT.1 (hts x hx))⟩
theorem zbdZ (S:yF) (a b:yB):zuF S (prod a b)↔zuF S a/\zuF S b:=by
 constructor
 ·rintro ⟨s,hs,h⟩
  obtain ⟨x,hx,y,hy,e⟩:=z2e.1 hs;subst e;exact ⟨⟨x,hx,λz hz=>h z (zVT.2 (by simp [hz]))⟩,⟨y,hy,λz hz=>h z (zVT.2 (by simp [hz]))⟩⟩
 ·rintro ⟨⟨x,hx,h1⟩,⟨y,hy,h2⟩⟩
  refine ⟨nR (x++y),z2e.2 ⟨x,hx,y,hy,rfl⟩,λz hz=> ?_⟩
  rcases List.mem_append.1 (zVT.1 hz) with hz | hz
  ·exact h1 z hz
  ·exact h2 z hz
theorem zbaQ (S:yF) (a b:yB):zuF S (a++b)↔zuF S a\/zuF S b:=by
 unfold zuF;simp only [List.mem_append];constructor
 ·rintro ⟨s,hs | hs,h⟩
  ·exact .inl ⟨s,hs,h⟩
  ·exact .inr ⟨s,hs,h⟩
 ·rintro (⟨s,hs,h⟩ | ⟨s,hs,h⟩)
  ·exact ⟨s,.inl hs,h⟩
  ·exact ⟨s,.inr hs,h⟩
section
variable (S:yF)
mutual
theorem zbcZ:∀ x:At,zuF S (ze4 x)↔z9g S x
 | ⟨k,r,a,_,_,_,_⟩=>by
  rw [ze4,z9g];by_cases hk:k=2
  ·rw [if_pos hk,if_pos hk];exact z5t a 0
  ·rw [if_neg hk,if_neg hk];unfold zuF;simp
theorem zTN:∀ (l:yD) (s:yB),zuF S (zct l s)↔zuF S s/\zHi S l
 | [],s=>by rw [zct,zHi]; simp
 | ⟨x,e⟩::r,s=>by rw [zct,zHi,zTN r,z7g,zbdZ,zbcZ x,and_assoc]
theorem z0I:∀ a:yC,zuF S (zeN a)↔zYK S a
 | []=>by rw [zeN,zYK]; simp [zuF]
 | ⟨c,fs⟩::r=>by
  rw [zeN,zYK,zbaQ,zTN fs,z0I r];have:zuF S [[]]:=⟨[],by simp,λx hx=>by cases hx⟩
  simp [this]
theorem z5t:∀ (l:yA) (i:Nat),zuF S ((zJA l).getD i default)↔(zLU S l).getD i False
 | [],i=>by rw [zJA,zLU]; simp [zuF,default]
 | a::r,0=>by
  rw [zJA,zLU];show zuF S (zim (zeN a))↔zYK S a;rw [z7g,z0I a]
 | a::r,i+1=>by
  rw [zJA,zLU];show zuF S ((zJA r).getD i default)↔(zLU S r).getD i False;exact z5t r i
end
end
def znD (l:yB) (s:yF):yB:=if (l.any λx=>sub x s)=true then l else zmU cS s (l.filter λx=> !sub s x)
theorem zkJ {L:yB} {s z:yF} (hs:zhU cR s):z∈fam (L++[s])↔z∈fam L\/z=s:=by
 rw [zFB,zFB];simp only [List.mem_append,qh];constructor
 ·rintro ⟨u,hu | rfl,e⟩
  ·exact .inl ⟨u,hu,e⟩
  ·rw [zQc hs] at e; exact .inr e.symm
 ·rintro (⟨u,hu,e⟩ | rfl)
  ·exact ⟨u,.inl hu,e⟩
  ·exact ⟨z,.inr rfl,zQc hs⟩
theorem zbc9 {L:yB} {s:yF} (hs:zhU cR s):znD (zim L) s=zim (L++[s]):=by
 unfold znD;by_cases h:((zim L).any λx=>sub x s)=true
 ·rw [if_pos h];obtain ⟨x,hx,hxs⟩:=List.any_eq_true.1 h;rw [zzP] at hxs;refine (zbbQ (λz hz=>(zkJ hs).2 (.inl hz)) λz hz=> ?_).symm
  rcases (zkJ hs).1 hz with hz | rfl
  ·exact ⟨z,hz,λx hx=>hx⟩
  ·exact ⟨x,(ztB.1 hx).1,hxs⟩
 ·rw [if_neg h];have hno:∀ x∈zim L,¬ ∀ y∈x,y∈s:=λx hx hxs=>h (List.any_eq_true.2 ⟨x,hx,zzP.2 hxs⟩)
  refine zBp zpL (z2v zpL _ ((zSQ L).filter _)) (zSQ _) λz=> ?_
  rw [zK6 zpL,List.mem_filter,ztB (l:=L++[s])];constructor
  ·rintro (rfl | ⟨hz,hnz⟩)
   ·refine ⟨(zkJ hs).2 (.inr rfl),λt ht hts=> ?_⟩
    rcases (zkJ hs).1 ht with ht | rfl
    ·obtain ⟨u,hu,hut⟩:=z9K ht;exact absurd (λy hy=>hts y (hut y hy)) (hno u hu)
    ·rfl
   ·refine ⟨(zkJ hs).2 (.inl (ztB.1 hz).1),λt ht hts=> ?_⟩
    rcases (zkJ hs).1 ht with ht | rfl
    ·exact (ztB.1 hz).2 t ht hts
    ·rw [zzP.2 hts] at hnz; cases hnz
  ·rintro ⟨hz,hm⟩
   rcases (zkJ hs).1 hz with hzL | rfl
   ·by_cases e:∀ y∈s,y∈z
    ·exact .inl (hm s ((zkJ hs).2 (.inr rfl)) e).symm
    ·refine .inr ⟨ztB.2 ⟨hzL,λt ht hts=>hm t ((zkJ hs).2 (.inl ht)) hts⟩, ?_⟩
     cases hq:sub s z with
     | false=>rfl
     | true=>exact absurd (zzP.1 hq) e
   ·exact .inl rfl
theorem zbeQ:zim []=[]:=rfl
theorem z4F:∀ (M L:yB),(∀ s∈M,zhU cR s)->M.foldl znD (zim L)=zim (L++M)
 | [],L,_=>by simp
 | s::r,L,h=>by
  rw [List.foldl_cons,zbc9 (h s (by simp)),z4F r _ λu hu=>h u (by simp [hu])]
  simp
theorem z8V {M:yB} (h:∀ s∈M,zhU cR s):M.foldl znD []=zim M:=by
 have:=z4F M [] h;rw [zbeQ] at this
 simpa using this
theorem zbgU (l:yF):zhU cR (nR l):=zyW ziE l
theorem zbcx (a b:yB):zim (a.flatMap λx=>b.map λy=>nR (x++y))=zim (prod a b):=by
 refine (zbbQ (λz hz=> ?_) λz hz=> ?_)
 ·rw [z9H (zYN _) λs hs=>zFK hs] at hz; exact hz
 ·exact ⟨z,by rw [z9H (zYN _) λs hs=>zFK hs]; exact hz,λx hx=>hx⟩
def dvF (a b:yD):Bool:=a.all λf=>b.any λg=>decide (f.Exp<=g.Exp)&&decide (f.At=g.At)
theorem zbcQ {α:Type} (e:α->TT) (he:∀ a b,e a=e b->a=b):Ord3 λa b=>zbL (e a) (e b) where
 eq x y:=⟨λh=>he _ _ (zzY _ _ h),λh=>by subst h; exact zX1 _⟩
 swap x y:=by rw [zvO (e x) (e y)]; omega
 trans x y z h1 h2:=by
  have h3:zbL (e x) (e z)<=0:=zRB _ _ _ (Int.le_of_lt h1) (Int.le_of_lt h2);by_cases h4:zbL (e x) (e z)=0
  ·have h5:=zzY _ _ h4;rw [h5,zvO (e y) (e z)] at h1;omega
  ·omega
abbrev zbh9 (l:yD):Prop:=l.Pairwise λf g=>zbL (zfg f.At) (zfg g.At)<0
def cL (a b:yD):Int:=zbL (.l (zb0 a)) (.l (zb0 b))
theorem zbid:Ord3 cL:=zbcQ (λa=>.l (zb0 a)) λa b h=>zBD _ _ (TT.l.inj h)
structure Canon (a:yC):Prop where
 asc:a.Pairwise λt u=>cL t.Fs u.Fs<0
 fac:∀ t∈a,zbh9 t.Fs
theorem Canon.tail {t:Term} {a:yC} (h:Canon (t::a)):Canon a:=⟨(qi.1 h.asc).2,λx hx=>h.fac x (by simp [hx])⟩
def leS (a b:yC):Bool:=a.all λt=>b.any λu=>dvF u.Fs t.Fs
theorem zbfS {a b:yC}:leS a b=true↔∀ t∈a,∃ u∈b,dvF u.Fs t.Fs=true:=by
 unfold leS;simp only [List.all_eq_true,List.any_eq_true]
def zbfj (a b s:yC):Prop:=∀ l:yD,(∃ t∈s,t.Fs=l)↔(∃ t∈a,t.Fs=l)\/∃ t∈b,t.Fs=l
theorem zbfj.le {a b s c:yC} (h:zbfj a b s):leS s c=true↔leS a c=true/\leS b c=true:=by
 simp only [zbfS];constructor
 ·intro hs;refine ⟨λt ht=> ?_,λt ht=> ?_⟩
  ·obtain ⟨t',ht',e⟩:=(h t.Fs).2 (.inl ⟨t,ht,rfl⟩);rw [<- e]; exact hs t' ht'
  ·obtain ⟨t',ht',e⟩:=(h t.Fs).2 (.inr ⟨t,ht,rfl⟩);rw [<- e]; exact hs t' ht'
 ·rintro ⟨h1,h2⟩ t ht
  rcases (h t.Fs).1 ⟨t,ht,rfl⟩ with ⟨u,hu,e⟩ | ⟨u,hu,e⟩
  ·rw [<- e]; exact h1 u hu
  ·rw [<- e]; exact h2 u hu
theorem zwV:∀ {l:yD},zsB l->∀ x∈l,zwE x
 | [],_,x,hx=>by cases hx
 | y::r,h,x,hx=>by
  unfold zsB at h;rcases qd.1 hx with rfl | hx
  ·exact h.1
  ·exact zwV h.2 x hx
theorem zzw:∀ {l:yC},zis l->∀ x∈l,zBs x
 | [],_,x,hx=>by cases hx
 | y::r,h,x,hx=>by
  unfold zis at h;rcases qd.1 hx with rfl | hx
  ·exact h.1
  ·exact zzw h.2 x hx
theorem zo7:∀ {l:yA},zzi l->∀ x∈l,zis x/\x.length<=zbo
 | [],_,x,hx=>by cases hx
 | y::r,h,x,hx=>by
  unfold zzi at h;rcases qd.1 hx with rfl | hx
  ·exact h.1
  ·exact zo7 h.2 x hx
theorem zxD:∀ {l:yE},zuo l->∀ x∈l,zTq x.Value/\zis x.Ann/\x.Ann.length<=zbo
 | [],_,x,hx=>by cases hx
 | y::r,h,x,hx=>by
  unfold zuo at h;rcases qd.1 hx with rfl | hx
  ·have:=h.1; unfold zG9 at this; exact ⟨this.1,this.2.1,this.2.2⟩
  ·exact zxD h.2 x hx
theorem zDs {t:Term} (h:zBs t):wf2 t.Cf/\zsB t.Fs/\t.Fs.length<=zbo:=by
 unfold zBs at h; exact ⟨h.1,h.2.1,h.2.2⟩
theorem zyY {t:Fc} (h:zwE t):zjX t.At/\wf3 t.Exp:=by
 unfold zwE at h; exact h
theorem zKe {x:At} (h:zjX x):(zzi x.Ag/\x.Ag.length<=zbo)/\(zuo x.Items/\x.Items.length<=zbo)/\zTq x.Bd/\wf3 x.Kind/\z2Y x.Row/\wf3 x.Func/\wf3 x.Op:=by
 obtain ⟨k,r,a,f,i,o,b⟩:=x; unfold zjX at h; exact ⟨h.2.2.1,h.2.2.2.2.1,h.2.2.2.2.2.2,h.1,h.2.1,h.2.2.2.1,h.2.2.2.2.2.1⟩
theorem zus {z:Int} (h0: -4611686018427387904<=z) (h:z<4611686018427387904):IntKind.i64.wrap z=z:=zY5 (by omega) (by omega)
mutual
def zfC:At->Nat
 | ⟨_,_,a,_,i,_,b⟩=>i.length+a.length+b.Text.size+zr9 a+zl4 i
def zW:yD->Nat
 | []=>0
 | ⟨x,_⟩::r=>zfC x+zW r
def zb4:yC->Nat
 | []=>0
 | ⟨_,fs⟩::r=>1+fs.length+zW fs+zb4 r
def zr9:yA->Nat
 | []=>0
 | a::r=>zb4 a+zr9 r
def zl4:yE->Nat
 | []=>0
 | ⟨v,a⟩::r=>v.Text.size+zb4 a+zl4 r
end
theorem zJK (x:At):zfC x=x.Items.length+x.Ag.length+x.Bd.Text.size+zr9 x.Ag+zl4 x.Items:=by cases x; rw [zfC]
theorem zne (f:Fc) (r:yD):zW (f::r)=zfC f.At+zW r:=by cases f; rw [zW]
theorem zxE (t:Term) (r:yC):zb4 (t::r)=1+t.Fs.length+zW t.Fs+zb4 r:=by cases t; rw [zb4]
theorem zDu (a:yC) (r:yA):zr9 (a::r)=zb4 a+zr9 r:=by rw [zr9]
theorem z73 (w:Wd) (r:yE):zl4 (w::r)=w.Value.Text.size+zb4 w.Ann+zl4 r:=by cases w; rw [zl4]
theorem z0G:zr9 []=0:=by rw [zr9]
theorem z9y:zl4 []=0:=by rw [zl4]
theorem z6R:zW []=0:=by rw [zW]
theorem zbb1:zb4 []=0:=by rw [zb4]
section
variable (g:yC->Int->Int->Bool×Int) (a:yC) (limit d:Nat) (hl:limit<=1000) (hd:d<=100) (B:Nat) (hB:B<=1152921504606846976) (P:yC->Prop)
include hl hd hB
theorem w14 (x:At) (i k:Int) (hlen:x.Ag.length<=zbo) (hg:∀ y∈x.Ag,∀ l:Nat,l<=1000->∃ w:Nat,g y l d=(true,(w:Int))/\w<=B/\(w<=l->P y/\zb4 y<=w)):
  ∀ (fuel j n:Nat),x.Ag.length<j+fuel->j<=x.Ag.length->n<=2305843009213693952->∃ n':Nat,zzd g fuel a limit (d+1:Nat) n i k j x=(true,(a,(limit:Int),((d+1:Nat):Int),(n':Int),i,k,x))/\n<=n'/\n'<=max n (limit+B)/\(n'<=limit->(∀ y∈x.Ag.drop j,P y)/\n+zr9 (x.Ag.drop j)<=n')
 | 0,j,n,h1,h2,h3=>by omega
 | fuel+1,j,n,h1,h2,h3=>by
  show ∃ n':Nat,(zzD g a limit (d+1:Nat) n i k j x).ev (λx y=>zzd g fuel x.1 x.2.1 x.2.2.1 x.2.2.2.1 x.2.2.2.2.1 x.2.2.2.2.2.1 x.2.2.2.2.2.2.2.1 y.1) (λr=>(true,r)) (false,default)=_/\_
  unfold zzD;have hml:zbo=140737488351232:=rfl;by_cases hj:j<x.Ag.length
  ·by_cases hn:n<=limit
   ·have e1:IntKind.i64.wrap ((limit:Int) - (n:Int))=((limit - n:Nat):Int):=by rw [zus (by omega) (by omega)]; omega
    obtain ⟨w,hw,hwB,hwP⟩:=hg _ (zR hj) (limit - n) (by omega)
    have ed:IntKind.i64.wrap (((d+1:Nat):Int) - 1)=(d:Int):=by rw [zus (by omega) (by omega)]; omega
    simp only [Wy.ev_i,Wy.ev_k,Wy.ev_h,Wy.ev_bn,Wy.ev_d,tT,hj,zp2,hn,e1,ed,hw];have e3:IntKind.i64.wrap ((n:Int)+(w:Int))=((n+w:Nat):Int):=by rw [zus (by omega) (by omega)]; omega
    rw [e3,zV (by omega)]
    obtain ⟨n',h4,h5,h6,h7⟩:=w14 x i k hlen hg fuel (j+1) (n+w) (by omega) (by omega) (by omega)
    refine ⟨n',h4,by omega,by omega,λhn'=> ?_⟩
    obtain ⟨h8,h9⟩:=h7 hn';obtain ⟨p1,p2⟩:=hwP (by omega)
    rw [zZ hj,zDu];refine ⟨λy hy=> ?_,by omega⟩
    rcases qd.1 hy with rfl | hy
    ·exact p1
    ·exact h8 y hy
   ·simp only [Wy.ev_i,Wy.ev_k,Wy.ev_h,Wy.ev_bn,Wy.ev_d,tT,hj,zp2,hn];exact ⟨n,rfl,Nat.le_refl _,by omega,λh=>absurd h hn⟩
  ·simp only [Wy.ev_i,Wy.ev_k,Wy.ev_h,Wy.ev_bn,Wy.ev_d,tT,hj];exact ⟨n,rfl,Nat.le_refl _,by omega,λ_=>by rw [zci hj,z0G]; exact ⟨λy hy=>(by cases hy),Nat.le_refl _⟩⟩
theorem w18 (x:At) (i k:Int) (hlen:x.Items.length<=zbo) (hg:∀ y∈x.Items,y.Value.Text.size<=zbo/\∀ l:Nat,l<=1000->∃ w:Nat,g y.Ann l d=(true,(w:Int))/\w<=B/\(w<=l->P y.Ann/\zb4 y.Ann<=w)):
  ∀ (fuel j n:Nat),x.Items.length<j+fuel->j<=x.Items.length->n<=2305843009213693952->∃ n':Nat,zyL g fuel a limit (d+1:Nat) n i k j x=(true,(a,(limit:Int),((d+1:Nat):Int),(n':Int),i,k))/\n<=n'/\n'<=max n (limit+zbo+B)/\(n'<=limit->(∀ y∈x.Items.drop j,y.Value.Text.size<=1000/\P y.Ann)/\n+zl4 (x.Items.drop j)<=n')
 | 0,j,n,h1,h2,h3=>by omega
 | fuel+1,j,n,h1,h2,h3=>by
  show ∃ n':Nat,(zzB g a limit (d+1:Nat) n i k j x).ev (λx y=>zyL g fuel x.1 x.2.1 x.2.2.1 x.2.2.2.1 x.2.2.2.2.1 x.2.2.2.2.2.1 x.2.2.2.2.2.2.2.1 y.1) (λr=>(true,r)) (false,default)=_/\_
  unfold zzB;have hml:zbo=140737488351232:=rfl;by_cases hj:j<x.Items.length
  ·by_cases hn:n<=limit
   ·have e1:IntKind.i64.wrap ((limit:Int) - (n:Int))=((limit - n:Nat):Int):=by rw [zus (by omega) (by omega)]; omega
    obtain ⟨ht,hgy⟩:=hg _ (zR hj);obtain ⟨w,hw,hwB,hwP⟩:=hgy (limit - n) (by omega)
    have ed:IntKind.i64.wrap (((d+1:Nat):Int) - 1)=(d:Int):=by rw [zus (by omega) (by omega)]; omega
    simp only [Wy.ev_i,Wy.ev_k,Wy.ev_h,Wy.ev_bn,Wy.ev_d,tT,hj,zp2,hn,e1,ed,hw];generalize hsz:(x.Items.getD j default).Value.Text.size=sz at *;have e3:IntKind.i64.wrap (IntKind.i64.wrap ((n:Int)+(sz:Int))+(w:Int))=((n+sz+w:Nat):Int):=by rw [zus (z:=(n:Int)+(sz:Int)) (by omega) (by omega),zus (by omega) (by omega)]; omega
    rw [e3,zV (by omega)]
    obtain ⟨n',h4,h5,h6,h7⟩:=w18 x i k hlen hg fuel (j+1) (n+sz+w) (by omega) (by omega) (by omega)
    refine ⟨n',h4,by omega,by omega,λhn'=> ?_⟩
    obtain ⟨h8,h9⟩:=h7 hn';obtain ⟨p1,p2⟩:=hwP (by omega)
    rw [zZ hj,z73];refine ⟨λy hy=> ?_,by omega⟩
    rcases qd.1 hy with rfl | hy
    ·exact ⟨by omega,p1⟩
    ·exact h8 y hy
   ·simp only [Wy.ev_i,Wy.ev_k,Wy.ev_h,Wy.ev_bn,Wy.ev_d,tT,hj,zp2,hn];exact ⟨n,rfl,Nat.le_refl _,by omega,λh=>absurd h hn⟩
  ·simp only [Wy.ev_i,Wy.ev_k,Wy.ev_h,Wy.ev_bn,Wy.ev_d,tT,hj];exact ⟨n,rfl,Nat.le_refl _,by omega,λ_=>by rw [zci hj,z9y]; exact ⟨λy hy=>(by cases hy),Nat.le_refl _⟩⟩
theorem w9 (i:Nat) (hi:i<a.length) (hla:(a.getD i default).Fs.length<=zbo) (hg:∀ f∈(a.getD i default).Fs,f.At.Ag.length<=zbo/\f.At.Items.length<=zbo/\f.At.Bd.Text.size<=zbo/\(∀ y∈f.At.Ag,∀ l:Nat,l<=1000->∃ w:Nat,g y l d=(true,(w:Int))/\w<=B/\(w<=l->P y/\zb4 y<=w))/\
   ∀ y∈f.At.Items,y.Value.Text.size<=zbo/\∀ l:Nat,l<=1000->∃ w:Nat,g y.Ann l d=(true,(w:Int))/\w<=B/\(w<=l->P y.Ann/\zb4 y.Ann<=w)):
  ∀ (fuel k n:Nat),(a.getD i default).Fs.length<k+fuel->k<=(a.getD i default).Fs.length->n<=2305843009213693952->∃ n':Nat,zAz g fuel a limit (d+1:Nat) n i k=(true,(a,(limit:Int),((d+1:Nat):Int),(n':Int),(i:Int)))/\n<=n'/\n'<=max n (limit+4*zbo+B)/\
   (n'<=limit->(∀ f∈(a.getD i default).Fs.drop k,(f.At.Ag.length<=1000/\f.At.Items.length<=1000/\f.At.Bd.Text.size<=1000)/\(∀ y∈f.At.Ag,P y)/\∀ y∈f.At.Items,y.Value.Text.size<=1000/\P y.Ann)/\n+zW ((a.getD i default).Fs.drop k)<=n')
 | 0,k,n,h1,h2,h3=>by omega
 | fuel+1,k,n,h1,h2,h3=>by
  show ∃ n':Nat,(zAN g a limit (d+1:Nat) n i k).ev (λx y=>zAz g fuel x.1 x.2.1 x.2.2.1 x.2.2.2.1 x.2.2.2.2.1 x.2.2.2.2.2.1) (λr=>(true,r)) (false,default)=_/\_
  unfold zAN;have hml:zbo=140737488351232:=rfl;by_cases hk:k<(a.getD i default).Fs.length
  ·by_cases hn:n<=limit
   ·simp only [Wy.ev_i,Wy.ev_k,Wy.ev_h,Wy.ev_bn,Wy.ev_d,tT,hi,hk,zp2,hn,At.eta];obtain ⟨ha1,ha2,ha3,hgA,hgI⟩:=hg _ (zR hk);generalize hf:((a.getD i default).Fs.getD k default)=f at *
    have e0:IntKind.i64.wrap (IntKind.i64.wrap (IntKind.i64.wrap ((n:Int)+(f.At.Items.length:Int))+(f.At.Ag.length:Int))+(f.At.Bd.Text.size:Int))=((n+f.At.Items.length+f.At.Ag.length+f.At.Bd.Text.size:Nat):Int):=by
     rw [zus (z:=(n:Int)+(f.At.Items.length:Int)) (by omega) (by omega),zus (z:=(n:Int)+(f.At.Items.length:Int)+(f.At.Ag.length:Int)) (by omega) (by omega),zus (by omega) (by omega)]; omega
    rw [e0];obtain ⟨n1,q1,q2,q3,q4⟩:=w14 g a limit d hl hd B hB P f.At i k ha1 hgA (a.length+limit+(d+1)+((n+f.At.Items.length+f.At.Ag.length+f.At.Bd.Text.size:Nat):Int).toNat +i+k+Int.toNat 0+f.At.Ag.length+f.At.Items.length+1) 0 (n+f.At.Items.length+f.At.Ag.length+f.At.Bd.Text.size) (by omega) (by omega) (by omega)
    rw [show ((0:Nat):Int)=(0:Int) from rfl] at q1
    rw [q1];simp only [cond_true,At.eta,Int.toNat_natCast];obtain ⟨n2,r1,r2,r3,r4⟩:=w18 g a limit d hl hd B hB P f.At i k ha2 hgI (a.length+limit+(d+1)+n1+i+k+Int.toNat 0+f.At.Ag.length+f.At.Items.length+1) 0 n1 (by omega) (by omega) (by omega)
    rw [show ((0:Nat):Int)=(0:Int) from rfl] at r1
    rw [r1];simp only [cond_true];rw [zV (by omega)]
    obtain ⟨n',h4,h5,h6,h7⟩:=w9 i hi hla hg fuel (k+1) n2 (by omega) (by omega) (by omega)
    refine ⟨n',h4,by omega,by omega,λhn'=> ?_⟩
    obtain ⟨h8,h9⟩:=h7 hn';obtain ⟨q5,q6⟩:=q4 (by omega)
    obtain ⟨r5,r6⟩:=r4 (by omega)
    rw [List.drop_zero] at q5 q6 r5 r6;rw [zZ hk,zne,hf,zJK];refine ⟨λy hy=> ?_,by omega⟩
    rcases qd.1 hy with rfl | hy
    ·exact ⟨⟨by omega,by omega,by omega⟩,q5,r5⟩
    ·exact h8 y hy
   ·simp only [Wy.ev_i,Wy.ev_k,Wy.ev_h,Wy.ev_bn,Wy.ev_d,tT,hi,hk,zp2,hn];exact ⟨n,rfl,Nat.le_refl _,by omega,λh=>absurd h hn⟩
  ·simp only [Wy.ev_i,Wy.ev_k,Wy.ev_h,Wy.ev_bn,Wy.ev_d,tT,hi,hk];exact ⟨n,rfl,Nat.le_refl _,by omega,λ_=>by rw [zci hk,z6R]; exact ⟨λy hy=>(by cases hy),Nat.le_refl _⟩⟩
theorem w5 (hla:∀ t∈a,t.Fs.length<=zbo) (hg:∀ t∈a,∀ f∈t.Fs,f.At.Ag.length<=zbo/\f.At.Items.length<=zbo/\f.At.Bd.Text.size<=zbo/\(∀ y∈f.At.Ag,∀ l:Nat,l<=1000->∃ w:Nat,g y l d=(true,(w:Int))/\w<=B/\(w<=l->P y/\zb4 y<=w))/\
   ∀ y∈f.At.Items,y.Value.Text.size<=zbo/\∀ l:Nat,l<=1000->∃ w:Nat,g y.Ann l d=(true,(w:Int))/\w<=B/\(w<=l->P y.Ann/\zb4 y.Ann<=w)) (hlen:a.length<=zbo):
  ∀ (fuel i n:Nat),a.length<i+fuel->i<=a.length->n<=2305843009213693952->∃ n':Nat,zAQ g fuel a limit (d+1:Nat) n i=(true,(n':Int))/\n<=n'/\n'<=max n (limit+6*zbo+B)/\
   (n'<=limit->(n+(a.length - i)<=n'/\n+zb4 (a.drop i)<=n')/\∀ t∈a.drop i,t.Fs.length<=1000/\∀ f∈t.Fs,(f.At.Ag.length<=1000/\f.At.Items.length<=1000/\f.At.Bd.Text.size<=1000)/\(∀ y∈f.At.Ag,P y)/\∀ y∈f.At.Items,y.Value.Text.size<=1000/\P y.Ann)
 | 0,i,n,h1,h2,h3=>by omega
 | fuel+1,i,n,h1,h2,h3=>by
  show ∃ n':Nat,(zA0 g a limit (d+1:Nat) n i).ev (λx y=>zAQ g fuel x.1 x.2.1 x.2.2.1 x.2.2.2.1 x.2.2.2.2.1) (λr=>(true,r)) (false,default)=_/\_
  unfold zA0;have hml:zbo=140737488351232:=rfl;by_cases hi:i<a.length
  ·by_cases hn:n<=limit
   ·simp only [Wy.ev_i,Wy.ev_k,Wy.ev_h,Wy.ev_bn,Wy.ev_d,tT,hi,zp2,hn];have hla':=hla _ (zR hi)
    have e0:IntKind.i64.wrap (IntKind.i64.wrap ((n:Int)+1)+((a.getD i default).Fs.length:Int))=((n+1+(a.getD i default).Fs.length:Nat):Int):=by
     rw [zV (by omega),zus (by omega) (by omega)]; omega
    rw [e0];obtain ⟨n1,q1,q2,q3,q4⟩:=w9 g a limit d hl hd B hB P i hi hla' (hg _ (zR hi)) (a.length+limit+(d+1)+((n+1+(a.getD i default).Fs.length:Nat):Int).toNat +i+Int.toNat 0+1) 0 (n+1+(a.getD i default).Fs.length) (by omega) (by omega) (by omega)
    rw [show ((0:Nat):Int)=(0:Int) from rfl] at q1
    rw [q1];simp only [cond_true];rw [zV (by omega)]
    obtain ⟨n',h4,h5,h6,h7⟩:=w5 hla hg hlen fuel (i+1) n1 (by omega) (by omega) (by omega)
    refine ⟨n',h4,by omega,by omega,λhn'=> ?_⟩
    obtain ⟨⟨h8,h10⟩,h9⟩:=h7 hn';obtain ⟨q5,q6⟩:=q4 (by omega)
    rw [List.drop_zero] at q5 q6;rw [zZ hi,zxE];refine ⟨⟨by omega,by omega⟩,λy hy=> ?_⟩
    rcases qd.1 hy with rfl | hy
    ·exact ⟨by omega,q5⟩
    ·exact h9 y hy
   ·simp only [Wy.ev_i,Wy.ev_k,Wy.ev_h,Wy.ev_bn,Wy.ev_d,tT,hi,zp2,hn];exact ⟨n,rfl,Nat.le_refl _,by omega,λh=>absurd h hn⟩
  ·simp only [Wy.ev_i,Wy.ev_k,Wy.ev_h,Wy.ev_bn,Wy.ev_d,tT,hi];exact ⟨n,rfl,Nat.le_refl _,by omega,λ_=>by rw [zci hi,zbb1]; exact ⟨⟨by omega,Nat.le_refl _⟩,λy hy=>(by cases hy)⟩⟩
end
theorem z7a:∀ (d N:Nat),d<N->d<=12->∀ (l:Nat),l<=1000->∀ a,zis a->a.length<=zbo->∃ w:Nat,zpE N a l d=(true,(w:Int))/\w<=(d+1)*4503599627370496/\(w<=l->zF d a/\zb4 a<=w)
 | _,0,h,_,_,_,_,_,_=>by omega
 | 0,N+1,_,_,l,hl,a,hw,hlen=>by
  rw [zJc];unfold zuZ zBX;refine ⟨l+1, ?_,by omega,λh=>by omega⟩
  simp only [Wy.fin_i,Wy.fin_k];rw [zV (by omega)]; rfl
 | d+1,N+1,hN,hd,l,hl,a,hw,hlen=>by
  rw [zJc];unfold zuZ zBX;have hml:zbo=140737488351232:=rfl;have ih:=λy (h1:zis y) (h2:y.length<=zbo) l hl=>z7a d N (by omega) (by omega) l hl y h1 h2
  have e0:(((d+1:Nat):Int)==(0:Int))=false:=by
   rw [beq_eq_false_iff_ne]; omega
  obtain ⟨n',h1,h2,h3,h4⟩:=w5 (zpE N) a l d hl (by omega) ((d+1)*4503599627370496) (by omega) (zF d) (λt ht=>(zDs (zzw hw t ht)).2.2) (λt ht f hf=>by
   have hx:=zKe (zyY (zwV (zDs (zzw hw t ht)).2.1 f hf)).1;refine ⟨hx.1.2,hx.2.1.2,hx.2.2.1.2.2,λy hy l hl=> ?_,λy hy=> ?_⟩
   ·have:=zo7 hx.1.1 y hy;exact ih y this.1 this.2 l hl
   ·have:=zxD hx.2.1.1 y hy;exact ⟨this.1.2.2,λl hl=>ih y.Ann this.2.1 this.2.2 l hl⟩) hlen (a.length+l+(d+1)+Int.toNat 0+Int.toNat 0+1) 0 0 (by omega) (by omega) (by omega)
  rw [show ((0:Nat):Int)=(0:Int) from rfl] at h1
  refine ⟨n', ?_,by omega,λhn=> ?_⟩
  ·simp only [Wy.fin_i,Wy.fin_k,Wy.fin_bn,e0,cond_false,Int.toNat_natCast,h1,cond_true]
  ·obtain ⟨⟨h5,h12⟩,h6⟩:=h4 hn;rw [List.drop_zero] at h12;refine ⟨⟨by omega,λt ht=> ?_⟩,by omega⟩
   obtain ⟨h7,h8⟩:=h6 t (by simpa using ht)
   refine ⟨by omega,λf hf=> ?_⟩
   obtain ⟨h9,h10,h11⟩:=h8 f hf;exact ⟨⟨by omega,by omega,by omega⟩,h10,λw hw=>⟨by have:=(h11 w hw).1; omega,(h11 w hw).2⟩⟩
theorem zbab (limit:Nat) (hl:limit<=1000) (l:yA) (hll:l.length<=1000) (hw:∀ a∈l,zis a/\a.length<=zbo):∀ (n i:Nat),l.length<i+n->i<=l.length->∃ r,zLz n limit l i=(true,r)/\((r=.inl false)\/(r=.inr ()/\∀ a∈l.drop i,zF 12 a/\zb4 a<=limit))
 | 0,i,h1,h2=>by omega
 | n+1,i,h1,h2=>by
  show ∃ r,(zLX limit l i).ev (λx y=>zLz n x.1 x.2.1 x.2.2.1) (λr=>(true,r)) (false,.inl default)=(true,r)/\_
  unfold zLX;by_cases hi:i<l.length
  ·obtain ⟨w,q1,q2,q3⟩:=z7a 12 1000 (by omega) (by omega) limit hl _ (hw _ (zR hi)).1 (hw _ (zR hi)).2
   have q1':zLe (l.getD i default) (limit:Int) 12=(true,(w:Int)):=q1;simp only [Wy.ev_i,Wy.ev_k,Wy.ev_h,Wy.ev_bn,Wy.ev_d,tT,hi,q1',zuH];by_cases hg:limit<w
   ·simp only [hg,decide_true,cond_true];exact ⟨_,rfl,.inl rfl⟩
   ·simp only [hg,decide_false,cond_false];rw [zV (by omega)]
    obtain ⟨r,h3,h4⟩:=zbab limit hl l hll hw n (i+1) (by omega) (by omega)
    refine ⟨r,h3, ?_⟩;rcases h4 with h4 | ⟨h4,h5⟩
    ·exact .inl h4
    ·refine .inr ⟨h4,λa ha=> ?_⟩
     rw [zZ hi] at ha;rcases qd.1 ha with rfl | ha
     ·exact ⟨(q3 (by omega)).1,by have:=(q3 (by omega)).2; omega⟩
     ·exact h5 a ha
  ·simp only [Wy.ev_i,Wy.ev_k,Wy.ev_h,Wy.ev_bn,Wy.ev_d,tT,hi];exact ⟨_,rfl,.inr ⟨rfl,λa ha=>by rw [zci hi] at ha; cases ha⟩⟩
theorem zbhu (limit:Nat) (hl:limit<=1000) (l:yA) (hll:l.length<=1000) (hw:∀ a∈l,zis a/\a.length<=zbo):∃ b,zzC limit l=(true,b)/\(b=true->∀ a∈l,zF 12 a/\zb4 a<=limit):=by
 unfold zzC z0P;obtain ⟨r,h1,h2⟩:=zbab limit hl l hll hw (limit+l.length+Int.toNat 0+1) 0 (by omega) (by omega)
 rw [show ((0:Nat):Int)=(0:Int) from rfl] at h1
 rw [Wy.fin_bn];simp only [Int.toNat_natCast,h1,cond_true];rcases h2 with rfl | ⟨rfl,h2⟩
 ·exact ⟨false,rfl,λh=>by cases h⟩
 ·exact ⟨true,rfl,λ_ a ha=>h2 a (by simpa using ha)⟩
mutual
def zj3:At->Nat
 | ⟨_,_,a,_,i,_,_⟩=>zfb a+zdI i
def zb2:yD->Nat
 | []=>0
 | ⟨x,_⟩::r=>zj3 x+zb2 r
def zX:yC->Nat
 | []=>0
 | ⟨_,fs⟩::r=>1+fs.length+zb2 fs+zX r
def zfb:yA->Nat
 | []=>0
 | a::r=>zX a+zfb r
def zdI:yE->Nat
 | []=>0
 | ⟨_,a⟩::r=>1+zX a+zdI r
end
theorem zjy (x:At):zj3 x=zfb x.Ag+zdI x.Items:=by cases x; rw [zj3]
theorem zeL (f:Fc) (r:yD):zb2 (f::r)=zj3 f.At+zb2 r:=by cases f; rw [zb2]
theorem zmu (t:Term) (r:yC):zX (t::r)=1+t.Fs.length+zb2 t.Fs+zX r:=by cases t; rw [zX]
theorem zhD (a:yC) (r:yA):zfb (a::r)=zX a+zfb r:=by rw [zfb]
theorem zjC (w:Wd) (r:yE):zdI (w::r)=1+zX w.Ann+zdI r:=by cases w; rw [zdI]
theorem zpb:zfb []=0:=by rw [zfb]
theorem zmS:zdI []=0:=by rw [zdI]
theorem zvd:zb2 []=0:=by rw [zb2]
theorem zJX:zX []=0:=by rw [zX]
theorem z5b (l:yA):∀ n:Nat,l.foldl (λs t=>s+zX t) n=n+zfb l:=by
 induction l with
 | nil=>intro n; rw [zpb]; rfl
 | cons a r ih=>intro n; rw [List.foldl_cons,ih,zhD]; omega
theorem z06 (l:yE):∀ n:Nat,l.foldl (λs t=>s+1+zX t.Ann) n=n+zdI l:=by
 induction l with
 | nil=>intro n; rw [zmS]; rfl
 | cons a r ih=>intro n; rw [List.foldl_cons,ih,zjC]; omega
theorem z8r (l:yD):∀ n:Nat,l.foldl (λs t=>s+zj3 t.At) n=n+zb2 l:=by
 induction l with
 | nil=>intro n; rw [zvd]; rfl
 | cons a r ih=>intro n; rw [List.foldl_cons,ih,zeL]; omega
theorem z7A (l:yC):∀ n:Nat,l.foldl (λs t=>s+1+t.Fs.length+zb2 t.Fs) n=n+zX l:=by
 induction l with
 | nil=>intro n; rw [zJX]; rfl
 | cons a r ih=>intro n; rw [List.foldl_cons,ih,zmu]; omega
theorem ztN {n m:Nat} (h:n+m<=4611686018427387904):IntKind.i64.wrap ((n:Int)+(m:Int))=((n+m:Nat):Int):=by
 rw [zY5 (by omega) (by omega)]; omega
theorem zgA {i:Nat} (h:i<4611686018427387904):IntKind.i64.wrap ((i:Int)+1)=((i+1:Nat):Int):=zV h
section
variable (g:yC->Bool×Int)
theorem zbgl (l:yA) (hl:l.length<=1000000) (hg:∀ y∈l,g y=(true,(zX y:Int))) (t12:yC) (t13 t14:Int) (t25:yD) (t26 t27:Int) (f:Fc) (fuel n:Nat) (hf:l.length<fuel) (hn:n+zfb l<=4611686018427387904):
  zCe g fuel n t12 t13 t14 t25 t26 t27 l l.length 0 f=(true,(((n+zfb l:Nat):Int),t12,t13,t14,t25,t26,t27,f)):=by
 have h:=zfW (W:=zut g) (z:=default) (l:=l) (λi (n:Nat)=>((n:Int),(),t12,t13,t14,t25,t26,t27,l,(l.length:Int),(i:Int),())) (λ_ _=>(f,())) (λy n=>.inl (n+zX y)) (λn=>((n:Int),t12,t13,t14,t25,t26,t27,f)) (λi n=>n+zfb (l.drop i)<=4611686018427387904)
  (λi n hi hI=>.inl ⟨_,rfl,by rw [zZ hi,zhD] at hI; omega,λH K D=>by
   rw [zZ hi,zhD] at hI;show (zjZ g n t12 t13 t14 t25 t26 t27 l l.length i f).ev H K D=_;unfold zjZ;simp only [Wy.ev_i,Wy.ev_k,Wy.ev_h,Wy.ev_bn,Wy.ev_d,tT,hi,hg _ (zR hi)];rw [ztN (by omega),zgA (by omega)]⟩)
  (λn hI H K D=>by
   show (zjZ g n t12 t13 t14 t25 t26 t27 l l.length l.length f).ev H K D=_;unfold zjZ;simp only [Wy.ev_i,Wy.ev_k,tT,Nat.lt_irrefl]) fuel 0 n (by omega) (Nat.zero_le _) (by simpa using hn)
 rw [List.drop_zero,zfY,z5b] at h;exact h
theorem zbgb (l:yE) (hl:l.length<=1000000) (hg:∀ y∈l,g y.Ann=(true,(zX y.Ann:Int))) (t12:yC) (t13 t14:Int) (t25:yD) (t26 t27:Int) (fuel n:Nat) (hf:l.length<fuel) (hn:n+zdI l<=4611686018427387904):
  zCr g fuel n t12 t13 t14 t25 t26 t27 l l.length 0=(true,(((n+zdI l:Nat):Int),t12,t13,t14,t25,t26,t27)):=by
 have h:=zfW (W:=zuu g) (z:=default) (l:=l) (λi (n:Nat)=>((n:Int),t12,t13,t14,t25,t26,t27,l,(l.length:Int),(i:Int),())) (λ_ _=>()) (λy n=>.inl (n+1+zX y.Ann)) (λn=>((n:Int),t12,t13,t14,t25,t26,t27)) (λi n=>n+zdI (l.drop i)<=4611686018427387904)
  (λi n hi hI=>.inl ⟨_,rfl,by rw [zZ hi,zjC] at hI; omega,λH K D=>by
   rw [zZ hi,zjC] at hI;show (zjQ g n t12 t13 t14 t25 t26 t27 l l.length i).ev H K D=_;unfold zjQ;simp only [Wy.ev_i,Wy.ev_k,Wy.ev_h,Wy.ev_bn,Wy.ev_d,tT,hi,hg _ (zR hi)];rw [zgA (by omega),show (1:Int)=((1:Nat):Int) from rfl,ztN (by omega),ztN (by omega), <- Nat.add_assoc]⟩)
  (λn hI H K D=>by
   show (zjQ g n t12 t13 t14 t25 t26 t27 l l.length l.length).ev H K D=_;unfold zjQ;simp only [Wy.ev_i,Wy.ev_k,tT,Nat.lt_irrefl]) fuel 0 n (by omega) (Nat.zero_le _) (by simpa using hn)
 rw [List.drop_zero,zfY,z06] at h;exact h
theorem zbhc (l:yD) (hl:l.length<=1000000) (hg:∀ f∈l,(f.At.Ag.length<=1000000/\f.At.Items.length<=1000000)/\(∀ y∈f.At.Ag,g y=(true,(zX y:Int)))/\∀ y∈f.At.Items,g y.Ann=(true,(zX y.Ann:Int))) (t12:yC) (t13 t14:Int) (fuel n:Nat) (hf:l.length<fuel) (hn:n+zb2 l<=4611686018427387904):
  zD9 g fuel n t12 t13 t14 l l.length 0=(true,(((n+zb2 l:Nat):Int),t12,t13,t14)):=by
 have h:=zfW (W:=zwz g) (z:=default) (l:=l) (λi (n:Nat)=>((n:Int),t12,t13,t14,l,(l.length:Int),(i:Int),())) (λ_ _=>()) (λy n=>.inl (n+zj3 y.At)) (λn=>((n:Int),t12,t13,t14)) (λi n=>n+zb2 (l.drop i)<=4611686018427387904)
  (λi n hi hI=>.inl ⟨_,rfl,by rw [zZ hi,zeL] at hI; omega,λH K D=>by
   rw [zZ hi,zeL,zjy] at hI;obtain ⟨⟨h1,h2⟩,h3,h4⟩:=hg _ (zR hi);show (zky g n t12 t13 t14 l l.length i).ev H K D=_;unfold zky;simp only [Wy.ev_i,Wy.ev_k,Wy.ev_h,Wy.ev_bn,Wy.ev_d,tT,hi,At.eta];rw [zbgl g _ h1 h3 _ _ _ _ _ _ _ _ _ (by omega) (by omega)]
   simp only [cond_true,Int.toNat_natCast];rw [zbgb g _ h2 h4 _ _ _ _ _ _ _ _ (by omega) (by omega)]
   simp only [cond_true];rw [zgA (by omega),zjy,Nat.add_assoc]⟩)
  (λn hI H K D=>by
   show (zky g n t12 t13 t14 l l.length l.length).ev H K D=_;unfold zky;simp only [Wy.ev_i,Wy.ev_k,tT,Nat.lt_irrefl]) fuel 0 n (by omega) (Nat.zero_le _) (by simpa using hn)
 rw [List.drop_zero,zfY,z8r] at h;exact h
theorem zbgX (l:yC) (hl:l.length<=1000000) (hg:∀ t∈l,t.Fs.length<=1000000/\∀ f∈t.Fs,(f.At.Ag.length<=1000000/\f.At.Items.length<=1000000)/\(∀ y∈f.At.Ag,g y=(true,(zX y:Int)))/\∀ y∈f.At.Items,g y.Ann=(true,(zX y.Ann:Int))) (fuel n:Nat) (hf:l.length<fuel) (hn:n+zX l<=4611686018427387904):
  zDO g fuel n l l.length 0=(true,((n+zX l:Nat):Int)):=by
 have h:=zfW (W:=zwD g) (z:=default) (l:=l) (λi (n:Nat)=>((n:Int),l,(l.length:Int),(i:Int),())) (λ_ _=>()) (λy n=>.inl (n+1+y.Fs.length+zb2 y.Fs)) (λn=>(n:Int)) (λi n=>n+zX (l.drop i)<=4611686018427387904)
  (λi n hi hI=>.inl ⟨_,rfl,by rw [zZ hi,zmu] at hI; omega,λH K D=>by
   rw [zZ hi,zmu] at hI;obtain ⟨h1,h3⟩:=hg _ (zR hi);show (zkG g n l l.length i).ev H K D=_;unfold zkG;simp only [Wy.ev_i,Wy.ev_k,Wy.ev_h,Wy.ev_bn,Wy.ev_d,tT,hi,At.eta];rw [show (1:Int)=((1:Nat):Int) from rfl,ztN (n:=1) (by omega),ztN (by omega)]
   rw [zbhc g _ h1 h3 _ _ _ _ _ (by omega) (by omega)]
   simp only [cond_true];rw [show ((1:Nat):Int)=(1:Int) from rfl,zgA (by omega),Nat.add_assoc n 1]⟩)
  (λn hI H K D=>by
   show (zkG g n l l.length l.length).ev H K D=_;unfold zkG;simp only [Wy.ev_i,Wy.ev_k,tT,Nat.lt_irrefl]) fuel 0 n (by omega) (Nat.zero_le _) (by simpa using hn)
 rw [List.drop_zero,zfY,z7A] at h;exact h
theorem zbep (x:At) (hl:x.Ag.length<=1000000) (hg:∀ y∈x.Ag,g y=(true,(zX y:Int))) (a:yC) (i k:Int) (fuel n:Nat) (hf:x.Ag.length<fuel) (hn:n+zfb x.Ag<=4611686018427387904):
  zKO g fuel a n i k 0 x=(true,(a,((n+zfb x.Ag:Nat):Int),i,k,x)):=by
 have h:=zfW (W:=zBY g) (z:=default) (l:=x.Ag) (λj (n:Nat)=>(a,(n:Int),i,k,(),(j:Int),())) (λ_ _=>(x,())) (λy n=>.inl (n+zX y)) (λn=>(a,(n:Int),i,k,x)) (λi n=>n+zfb (x.Ag.drop i)<=4611686018427387904)
  (λj n hi hI=>.inl ⟨_,rfl,by rw [zZ hi,zhD] at hI; omega,λH K D=>by
   rw [zZ hi,zhD] at hI;show (zqr g a n i k j x).ev H K D=_;unfold zqr;simp only [Wy.ev_i,Wy.ev_k,Wy.ev_h,Wy.ev_bn,Wy.ev_d,tT,hi,hg _ (zR hi)];rw [ztN (by omega),zgA (by omega)]⟩)
  (λn hI H K D=>by
   show (zqr g a n i k x.Ag.length x).ev H K D=_;unfold zqr;simp only [Wy.ev_i,Wy.ev_k,tT,Nat.lt_irrefl]) fuel 0 n (by omega) (Nat.zero_le _) (by simpa using hn)
 rw [List.drop_zero,zfY,z5b] at h;exact h
theorem zbee (x:At) (hl:x.Items.length<=1000000) (hg:∀ y∈x.Items,g y.Ann=(true,(zX y.Ann:Int))) (a:yC) (i k:Int) (fuel n:Nat) (hf:x.Items.length<fuel) (hn:n+zdI x.Items<=4611686018427387904):
  zKS g fuel a n i k 0 x=(true,(a,((n+zdI x.Items:Nat):Int),i,k)):=by
 have h:=zfW (W:=zBN g) (z:=default) (l:=x.Items) (λj (n:Nat)=>(a,(n:Int),i,k,(),(j:Int),())) (λ_ _=>(x,())) (λy n=>.inl (n+1+zX y.Ann)) (λn=>(a,(n:Int),i,k)) (λi n=>n+zdI (x.Items.drop i)<=4611686018427387904)
  (λj n hi hI=>.inl ⟨_,rfl,by rw [zZ hi,zjC] at hI; omega,λH K D=>by
   rw [zZ hi,zjC] at hI;show (zqB g a n i k j x).ev H K D=_;unfold zqB;simp only [Wy.ev_i,Wy.ev_k,Wy.ev_h,Wy.ev_bn,Wy.ev_d,tT,hi,hg _ (zR hi)];rw [zgA (i:=j) (by omega),zgA (i:=n) (by omega),ztN (by omega)]⟩)
  (λn hI H K D=>by
   show (zqB g a n i k x.Items.length x).ev H K D=_;unfold zqB;simp only [Wy.ev_i,Wy.ev_k,tT,Nat.lt_irrefl]) fuel 0 n (by omega) (Nat.zero_le _) (by simpa using hn)
 rw [List.drop_zero,zfY,z06] at h;exact h
theorem zSd:∀ (a:yC) (i:Nat),i<a.length->(a.getD i default).Fs.length<=zdR a
 | [],i,h=>by simp at h
 | t::r,0,h=>by
  have:∀ l:yD,l.length<=z6p l:=λl=>by
   induction l with
   | nil=>exact Nat.le_refl _
   | cons f r ih=>simp only [z6p,qf]; omega
  have:=this t.Fs;simp only [zdR,List.getD_cons_zero]; omega
 | t::r,i+1,h=>by
  have:=zSd r i (by simpa using h)
  simp only [zdR,List.getD_cons_succ]; omega
theorem foldl_factors' (l:yD):∀ n:Nat,l.foldl (λs t=>s+1+zj3 t.At) n=n+l.length+zb2 l:=by
 induction l with
 | nil=>intro n; rw [zvd]; rfl
 | cons a r ih=>intro n; rw [List.foldl_cons,ih,zeL,qf]; omega
theorem zbgh (a:yC) (i:Nat) (hi:i<a.length) (hla:a.length<=1000000) (l:yD) (el:(a.getD i default).Fs=l) (hl:l.length<=1000000) (hg:∀ f∈l,(f.At.Ag.length<=1000000/\f.At.Items.length<=1000000)/\(∀ y∈f.At.Ag,g y=(true,(zX y:Int)))/\∀ y∈f.At.Items,g y.Ann=(true,(zX y.Ann:Int))) (fuel n:Nat) (hf:l.length<fuel) (hn:n+l.length+zb2 l<=4611686018427387904):
  zNI g fuel a n i 0=(true,(a,((n+l.length+zb2 l:Nat):Int),(i:Int))):=by
 have h:=zfW (W:=zC8 g) (z:=default) (l:=l) (λk (n:Nat)=>(a,(n:Int),(i:Int),(k:Int),())) (λ_ _=>()) (λy n=>.inl (n+1+zj3 y.At)) (λn=>(a,(n:Int),(i:Int))) (λk n=>n+(l.drop k).length+zb2 (l.drop k)<=4611686018427387904)
  (λk n hk hI=>.inl ⟨_,rfl,by rw [zZ hk,zeL,qf] at hI; omega,λH K D=>by
   rw [zZ hk,zeL,zjy,qf] at hI;obtain ⟨⟨h1,h2⟩,h3,h4⟩:=hg _ (zR hk);show (zsd g a n i k).ev H K D=_;unfold zsd;simp only [Wy.ev_i,Wy.ev_k,Wy.ev_h,Wy.ev_bn,Wy.ev_d,tT,hi,el,hk,At.eta];rw [zgA (i:=n) (by omega)]
   rw [zbep g _ h1 h3 _ _ _ _ _ (by omega) (by omega)]
   simp only [cond_true,Int.toNat_natCast,At.eta];rw [zbee g _ h2 h4 _ _ _ _ _ (by omega) (by omega)]
   simp only [cond_true];rw [zgA (by omega),zjy,Nat.add_assoc (n+1)]⟩)
  (λn hI H K D=>by
   show (zsd g a n i l.length).ev H K D=_;unfold zsd;simp only [Wy.ev_i,Wy.ev_k,tT,hi,el,Nat.lt_irrefl]) fuel 0 n (by omega) (Nat.zero_le _) (by simpa using hn)
 rw [List.drop_zero,zfY,foldl_factors'] at h;exact h
theorem zbfX (l:yC) (hl:l.length<=1000000) (hg:∀ t∈l,t.Fs.length<=1000000/\∀ f∈t.Fs,(f.At.Ag.length<=1000000/\f.At.Items.length<=1000000)/\(∀ y∈f.At.Ag,g y=(true,(zX y:Int)))/\∀ y∈f.At.Items,g y.Ann=(true,(zX y.Ann:Int))) (fuel n:Nat) (hf:l.length<fuel) (hn:n+zX l<=4611686018427387904):
  zNm g fuel l n 0=(true,((n+zX l:Nat):Int)):=by
 have h:=zfW (W:=zDv g) (z:=default) (l:=l) (λi (n:Nat)=>(l,(n:Int),(i:Int),())) (λ_ _=>()) (λy n=>.inl (n+1+y.Fs.length+zb2 y.Fs)) (λn=>(n:Int)) (λi n=>n+zX (l.drop i)<=4611686018427387904)
  (λi n hi hI=>.inl ⟨_,rfl,by rw [zZ hi,zmu] at hI; omega,λH K D=>by
   rw [zZ hi,zmu] at hI;obtain ⟨h1,h3⟩:=hg _ (zR hi);have hz:=zSd l i hi;show (zse g l n i).ev H K D=_;unfold zse;simp only [Wy.ev_i,Wy.ev_k,Wy.ev_h,Wy.ev_bn,Wy.ev_d,tT,hi,At.eta];rw [zgA (i:=n) (by omega)]
   rw [zbgh g l i hi hl _ rfl h1 h3 _ _ (by omega) (by omega)]
   simp only [cond_true];rw [zgA (by omega)]⟩)
  (λn hI H K D=>by
   show (zse g l n l.length).ev H K D=_;unfold zse;simp only [Wy.ev_i,Wy.ev_k,tT,Nat.lt_irrefl]) fuel 0 n (by omega) (Nat.zero_le _) (by simpa using hn)
 rw [List.drop_zero,zfY,z7A] at h;exact h
end
theorem zba1 {l:yA} {y:yC} (h:y∈l):zX y<=zfb l:=by
 induction l with
 | nil=>cases h
 | cons a r ih=>
  rw [zhD];rcases qd.1 h with rfl | h
  ·omega
  ·have:=ih h; omega
theorem zbaf {l:yE} {y:Wd} (h:y∈l):zX y.Ann<=zdI l:=by
 induction l with
 | nil=>cases h
 | cons a r ih=>
  rw [zjC];rcases qd.1 h with rfl | h
  ·omega
  ·have:=ih h; omega
theorem zRa {l:yD} {y:Fc} (h:y∈l):zj3 y.At<=zb2 l:=by
 induction l with
 | nil=>cases h
 | cons a r ih=>
  rw [zeL];rcases qd.1 h with rfl | h
  ·omega
  ·have:=ih h; omega
theorem zbcD {l:yC} {y:Term} (h:y∈l):zb2 y.Fs<=zX l:=by
 induction l with
 | nil=>cases h
 | cons a r ih=>
  rw [zmu];rcases qd.1 h with rfl | h
  ·omega
  ·have:=ih h; omega
theorem z6j {a:yC} {t:Term} {f:Fc} (ht:t∈a) (hf:f∈t.Fs):zfb f.At.Ag+zdI f.At.Items<=zX a:=by
 have h1:=zbcD ht; have h2:=zRa hf; rw [zjy] at h2; omega
theorem zOM {d:Nat} {a:yC} (h:zF (d+1) a) {t:Term} (ht:t∈a):t.Fs.length<=1000000/\∀ f∈t.Fs,(f.At.Ag.length<=1000000/\f.At.Items.length<=1000000)/\(∀ y∈f.At.Ag,zF d y)/\∀ y∈f.At.Items,zF d y.Ann:=
 ⟨(h.2 t ht).1,λf hf=>have q:=(h.2 t ht).2 f hf; ⟨⟨q.1.1,q.1.2.1⟩,q.2.1,λy hy=>(q.2.2 y hy).2⟩⟩
theorem z2K:∀ (n d:Nat) (a:yC),zF d a->d<=n->zX a<=4611686018427387904->zlc n a=(true,(zX a:Int))/\zuK n a=(true,(zX a:Int))
 | n,0,a,h,hd,hs=>h.elim
 | 0,d+1,a,h,hd,hs=>by omega
 | n+1,d+1,a,h,hd,hs=>by
  have hg:=λy (hy:zF d y) (hs:zX y<=4611686018427387904)=>z2K n d y hy (by omega) hs
  have hsub:∀ t∈a,t.Fs.length<=1000000/\∀ f∈t.Fs,(f.At.Ag.length<=1000000/\f.At.Items.length<=1000000)/\(∀ y∈f.At.Ag,zF d y/\zX y<=4611686018427387904)/\∀ y∈f.At.Items,zF d y.Ann/\zX y.Ann<=4611686018427387904:=λt ht=>by
   obtain ⟨h1,h2⟩:=zOM h ht;refine ⟨h1,λf hf=> ?_⟩
   obtain ⟨h3,h4,h5⟩:=h2 f hf;have h6:=z6j ht hf;exact ⟨h3,λy hy=>⟨h4 y hy,by have:=zba1 hy; omega⟩,λy hy=>⟨h5 y hy,by have:=zbaf hy; omega⟩⟩
  constructor
  ·rw [zSM];unfold zt5 zE1
   have h1:=zbgX (zlc n) a h.1 (λt ht=>⟨(hsub t ht).1,λf hf=>⟨((hsub t ht).2 f hf).1,λy hy=>(hg y (((hsub t ht).2 f hf).2.1 y hy).1 (((hsub t ht).2 f hf).2.1 y hy).2).1,λy hy=>(hg _ (((hsub t ht).2 f hf).2.2 y hy).1 (((hsub t ht).2 f hf).2.2 y hy).2).1⟩⟩)
    (Int.toNat 0+a.length+(Int.ofNat a.length).toNat +Int.toNat 0+1) 0 (by omega) (by omega)
   rw [show ((0:Nat):Int)=(0:Int) from rfl,Nat.zero_add] at h1
   rw [Wy.fin_bn,show Int.ofNat a.length=(a.length:Int) from rfl] at *
   rw [h1]; rfl
  ·rw [z4e];unfold zDY zRg
   have h1:=zbfX (zuK n) a h.1 (λt ht=>⟨(hsub t ht).1,λf hf=>⟨((hsub t ht).2 f hf).1,λy hy=>(hg y (((hsub t ht).2 f hf).2.1 y hy).1 (((hsub t ht).2 f hf).2.1 y hy).2).2,λy hy=>(hg _ (((hsub t ht).2 f hf).2.2 y hy).1 (((hsub t ht).2 f hf).2.2 y hy).2).2⟩⟩)
    (a.length+Int.toNat 0+Int.toNat 0+1+zdR a) 0 (by omega) (by omega)
   rw [show ((0:Nat):Int)=(0:Int) from rfl,Nat.zero_add] at h1
   rw [Wy.fin_bn,h1]; rfl
mutual
def znk:At->Nat
 | ⟨k,_,a,_,i,_,_⟩=>if k=0 then 0 else 1+max (zl6 a) (zku i)
def zdn:yD->Nat
 | []=>0
 | ⟨x,_⟩::r=>max (znk x) (zdn r)
def zbB:yC->Nat
 | []=>0
 | ⟨_,fs⟩::r=>max (zdn fs) (zbB r)
def zl6:yA->Nat
 | []=>0
 | a::r=>max (zbB a) (zl6 r)
def zku:yE->Nat
 | []=>0
 | ⟨_,a⟩::r=>max (zbB a) (zku r)
end
theorem zC7 (x:At):znk x=if x.Kind=0 then 0 else 1+max (zl6 x.Ag) (zku x.Items):=by cases x; rw [znk]
theorem zsD (f:Fc) (r:yD):zdn (f::r)=max (znk f.At) (zdn r):=by cases f; rw [zdn]
theorem zPn (t:Term) (r:yC):zbB (t::r)=max (zdn t.Fs) (zbB r):=by cases t; rw [zbB]
theorem zC9 (a:yC) (r:yA):zl6 (a::r)=max (zbB a) (zl6 r):=by rw [zl6]
theorem zBA (w:Wd) (r:yE):zku (w::r)=max (zbB w.Ann) (zku r):=by cases w; rw [zku]
theorem zOC:zl6 []=0:=by rw [zl6]
theorem zKU:zku []=0:=by rw [zku]
theorem zFo:zdn []=0:=by rw [zdn]
theorem z3y:zbB []=0:=by rw [zbB]
theorem zbcz (l:yA):∀ n:Nat,l.foldl (λs t=>max s (zbB t)) n=max n (zl6 l):=by
 induction l with
 | nil=>intro n; rw [zOC]; exact (Nat.max_zero n).symm
 | cons a r ih=>intro n; rw [List.foldl_cons,ih,zC9]; omega
theorem zbaJ (l:yE):∀ n:Nat,l.foldl (λs t=>max s (zbB t.Ann)) n=max n (zku l):=by
 induction l with
 | nil=>intro n; rw [zKU]; exact (Nat.max_zero n).symm
 | cons a r ih=>intro n; rw [List.foldl_cons,ih,zBA]; omega
theorem zbaR (l:yA):∀ n:Nat,l.foldl (λs t=>max s (1+zbB t)) (1+n)=1+max n (zl6 l):=by
 induction l with
 | nil=>intro n; rw [zOC]; simp
 | cons a r ih=>intro n; rw [List.foldl_cons,show max (1+n) (1+zbB a)=1+max n (zbB a) by omega,ih,zC9]; omega
theorem z99 (l:yE):∀ n:Nat,l.foldl (λs t=>max s (1+zbB t.Ann)) (1+n)=1+max n (zku l):=by
 induction l with
 | nil=>intro n; rw [zKU]; simp
 | cons a r ih=>intro n; rw [List.foldl_cons,show max (1+n) (1+zbB a.Ann)=1+max n (zbB a.Ann) by omega,ih,zBA]; omega
theorem zTW (l:yD):∀ n:Nat,l.foldl (λs t=>max s (znk t.At)) n=max n (zdn l):=by
 induction l with
 | nil=>intro n; rw [zFo]; exact (Nat.max_zero n).symm
 | cons a r ih=>intro n; rw [List.foldl_cons,ih,zsD]; omega
theorem z7q (l:yC):∀ n:Nat,l.foldl (λs t=>max s (zdn t.Fs)) n=max n (zbB l):=by
 induction l with
 | nil=>intro n; rw [z3y]; exact (Nat.max_zero n).symm
 | cons a r ih=>intro n; rw [List.foldl_cons,ih,zPn]; omega
theorem zYM (a b:Nat):(if (a:Int)>(b:Int) then (a:Int) else (b:Int))=((max b a:Nat):Int):=by split <;>omega
theorem z3p {d:Nat}:∀ l:yA,(∀ y∈l,zbB y<=d)->zl6 l<=d:=λl=>by
 induction l with
 | nil=>intro _; rw [zOC]; omega
 | cons y r ih=>intro hy; rw [zC9]; have h1:=hy y (by simp); have h2:=ih λz hz=>hy z (by simp [hz]); omega
theorem z04 {d:Nat}:∀ l:yE,(∀ y∈l,zbB y.Ann<=d)->zku l<=d:=λl=>by
 induction l with
 | nil=>intro _; rw [zKU]; omega
 | cons y r ih=>intro hy; rw [zBA]; have h1:=hy y (by simp); have h2:=ih λz hz=>hy z (by simp [hz]); omega
theorem z7S {d:Nat}:∀ l:yD,(∀ y∈l,znk y.At<=d)->zdn l<=d:=λl=>by
 induction l with
 | nil=>intro _; rw [zFo]; omega
 | cons y r ih=>intro hy; rw [zsD]; have h1:=hy y (by simp); have h2:=ih λz hz=>hy z (by simp [hz]); omega
theorem zbdA {d:Nat}:∀ l:yC,(∀ y∈l,zdn y.Fs<=d)->zbB l<=d:=λl=>by
 induction l with
 | nil=>intro _; rw [z3y]; omega
 | cons y r ih=>intro hy; rw [zPn]; have h1:=hy y (by simp); have h2:=ih λz hz=>hy z (by simp [hz]); omega
theorem zR9:∀ (d:Nat) (a:yC),zF d a->zbB a<=d
 | 0,a,h=>h.elim
 | d+1,a,h=>zbdA a λt ht=>z7S _ λf hf=>by
  obtain ⟨_,h2⟩:=zOM h ht;obtain ⟨_,h4,h5⟩:=h2 f hf;have q1:=z3p f.At.Ag λy hy=>zR9 d y (h4 y hy)
  have q2:=z04 f.At.Items λy hy=>zR9 d y.Ann (h5 y hy)
  rw [zC7]; split <;>omega
section
variable (g:yC->Bool×Int)
theorem zbgT (l:yA) (hl:l.length<=1000000) (hg:∀ y∈l,g y=(true,(zbB y:Int))) (nn:Int) (t13:yC) (t14 t15:Int) (t20:yD) (t21 t22:Int) (f:Fc) (fuel n:Nat) (hf:l.length<fuel):
  zzm g fuel nn n t13 t14 t15 t20 t21 t22 l l.length 0 f=(true,(nn,((max n (zl6 l):Nat):Int),t13,t14,t15,t20,t21,t22,f)):=by
 have h:=zfW (W:=zp9 g) (z:=default) (l:=l) (λi (n:Nat)=>(nn,(),(n:Int),t13,t14,t15,t20,t21,t22,l,(l.length:Int),(i:Int),())) (λ_ _=>(f,())) (λy n=>.inl (max n (zbB y))) (λn=>(nn,(n:Int),t13,t14,t15,t20,t21,t22,f)) (λi n=>True)
  (λi n hi hI=>.inl ⟨_,rfl,trivial,λH K D=>by
   show (zhK g nn n t13 t14 t15 t20 t21 t22 l l.length i f).ev H K D=_;unfold zhK;simp only [Wy.ev_i,Wy.ev_k,Wy.ev_h,Wy.ev_bn,Wy.ev_d,tT,hi,hg _ (zR hi),zYM];rw [zgA (by omega)]⟩)
  (λn hI H K D=>by
   show (zhK g nn n t13 t14 t15 t20 t21 t22 l l.length l.length f).ev H K D=_;unfold zhK;simp only [Wy.ev_i,Wy.ev_k,tT,Nat.lt_irrefl]) fuel 0 n (by omega) (Nat.zero_le _) trivial
 rw [List.drop_zero,zfY,zbcz] at h;exact h
theorem zbhy (l:yE) (hl:l.length<=1000000) (hg:∀ y∈l,g y.Ann=(true,(zbB y.Ann:Int))) (nn:Int) (t13:yC) (t14 t15:Int) (t20:yD) (t21 t22:Int) (fuel n:Nat) (hf:l.length<fuel):
  zzq g fuel nn n t13 t14 t15 t20 t21 t22 l l.length 0=(true,(nn,((max n (zku l):Nat):Int),t13,t14,t15,t20,t21,t22)):=by
 have h:=zfW (W:=zqm g) (z:=default) (l:=l) (λi (n:Nat)=>(nn,(n:Int),t13,t14,t15,t20,t21,t22,l,(l.length:Int),(i:Int),())) (λ_ _=>()) (λy n=>.inl (max n (zbB y.Ann))) (λn=>(nn,(n:Int),t13,t14,t15,t20,t21,t22)) (λi n=>True)
  (λi n hi hI=>.inl ⟨_,rfl,trivial,λH K D=>by
   show (zhx g nn n t13 t14 t15 t20 t21 t22 l l.length i).ev H K D=_;unfold zhx;simp only [Wy.ev_i,Wy.ev_k,Wy.ev_h,Wy.ev_bn,Wy.ev_d,tT,hi,hg _ (zR hi),zYM];rw [zgA (by omega)]⟩)
  (λn hI H K D=>by
   show (zhx g nn n t13 t14 t15 t20 t21 t22 l l.length l.length).ev H K D=_;unfold zhx;simp only [Wy.ev_i,Wy.ev_k,tT,Nat.lt_irrefl]) fuel 0 n (by omega) (Nat.zero_le _) trivial
 rw [List.drop_zero,zfY,zbaJ] at h;exact h
def zS1 (x:At):Prop:=(x.Ag.length<=1000000/\x.Items.length<=1000000)/\(znk x<=1000/\(∀ y∈x.Ag,zbB y<=1000)/\∀ y∈x.Items,zbB y.Ann<=1000)/\(∀ y∈x.Ag,g y=(true,(zbB y:Int)))/\∀ y∈x.Items,g y.Ann=(true,(zbB y.Ann:Int))
theorem zbhF (l:yD) (hl:l.length<=1000000) (hg:∀ f∈l,zS1 g f.At) (t13:yC) (t14 t15:Int) (fuel n:Nat) (hf:l.length<fuel):
  zAm g fuel n t13 t14 t15 l l.length 0=(true,(((max n (zdn l):Nat):Int),t13,t14,t15)):=by
 have h:=zfW (W:=zrI g) (z:=default) (l:=l) (λi (n:Nat)=>((n:Int),t13,t14,t15,l,(l.length:Int),(i:Int),())) (λ_ _=>()) (λy n=>.inl (max n (znk y.At))) (λn=>((n:Int),t13,t14,t15)) (λi n=>True)
  (λi n hi hI=>.inl ⟨_,rfl,trivial,λH K D=>by
   obtain ⟨⟨h1,h2⟩,⟨h5,_,_⟩,h3,h4⟩:=hg _ (zR hi);show (zix g n t13 t14 t15 l l.length i).ev H K D=_;unfold zix;simp only [Wy.ev_i,Wy.ev_k,Wy.ev_h,Wy.ev_bn,Wy.ev_d,tT,hi,At.eta];generalize l.getD i default=f at *;rw [zC7] at h5 ⊢;by_cases hk:f.At.Kind=0
   ·have e:(f.At.Kind==0)=true:=by simp [hk]
    simp only [e,cond_true];rw [if_pos hk,Nat.max_zero,zgA (by omega)]
   ·have e:(f.At.Kind==0)=false:=by simp [hk]
    simp only [e,cond_false];rw [if_neg hk] at h5 ⊢;have q:=λfuel hf=>zbgT g _ h1 h3 n t13 t14 t15 l l.length i f fuel 0 hf
    rw [Nat.zero_max,show ((0:Nat):Int)=(0:Int) from rfl] at q
    rw [q _ (by omega)]
    simp only [cond_true,Int.toNat_natCast];rw [zbhy g _ h2 h4 n t13 t14 t15 l l.length i _ _ (by omega)]
    simp only [cond_true];rw [zgA (by omega),show (1:Int)=((1:Nat):Int) from rfl,ztN (n:=1) (by omega),zYM]⟩)
  (λn hI H K D=>by
   show (zix g n t13 t14 t15 l l.length l.length).ev H K D=_;unfold zix;simp only [Wy.ev_i,Wy.ev_k,tT,Nat.lt_irrefl]) fuel 0 n (by omega) (Nat.zero_le _) trivial
 rw [List.drop_zero,zfY,zTW] at h;exact h
theorem zbhS (l:yC) (hl:l.length<=1000000) (hg:∀ t∈l,t.Fs.length<=1000000/\∀ f∈t.Fs,zS1 g f.At) (fuel n:Nat) (hf:l.length<fuel):
  zAx g fuel n l l.length 0=(true,((max n (zbB l):Nat):Int)):=by
 have h:=zfW (W:=zrY g) (z:=default) (l:=l) (λi (n:Nat)=>((n:Int),l,(l.length:Int),(i:Int),())) (λ_ _=>()) (λy n=>.inl (max n (zdn y.Fs))) (λn=>(n:Int)) (λi n=>True)
  (λi n hi hI=>.inl ⟨_,rfl,trivial,λH K D=>by
   obtain ⟨h1,h3⟩:=hg _ (zR hi);show (ziO g n l l.length i).ev H K D=_;unfold ziO;simp only [Wy.ev_i,Wy.ev_k,Wy.ev_h,Wy.ev_bn,Wy.ev_d,tT,hi,At.eta];rw [zbhF g _ h1 h3 _ _ _ _ _ (by omega)]
   simp only [cond_true];rw [zgA (by omega)]⟩)
  (λn hI H K D=>by
   show (ziO g n l l.length l.length).ev H K D=_;unfold ziO;simp only [Wy.ev_i,Wy.ev_k,tT,Nat.lt_irrefl]) fuel 0 n (by omega) (Nat.zero_le _) trivial
 rw [List.drop_zero,zfY,z7q] at h;exact h
theorem zbf8 (x:At) (hx:zS1 g x) (a:yC) (most i k:Int) (fuel n:Nat) (hf:x.Ag.length<fuel):
  zxP g fuel a most i k ((1+n:Nat):Int) 0 x=(true,(a,most,i,k,((1+max n (zl6 x.Ag):Nat):Int),x)):=by
 obtain ⟨⟨h1,h2⟩,⟨h5,h6,h7⟩,h3,h4⟩:=hx
 have h:=zfW (W:=zxV g) (z:=default) (l:=x.Ag) (λj (n:Nat)=>(a,most,i,k,(),(n:Int),(j:Int),())) (λ_ _=>(x,())) (λy n=>.inl (max n (1+zbB y))) (λn=>(a,most,i,k,(n:Int),x)) (λi n=>True)
  (λj n hi hI=>.inl ⟨_,rfl,trivial,λH K D=>by
   have h8:=h6 _ (zR hi);show (zlL g a most i k n j x).ev H K D=_;unfold zlL;simp only [Wy.ev_i,Wy.ev_k,Wy.ev_h,Wy.ev_bn,Wy.ev_d,tT,hi,h3 _ (zR hi)];rw [zgA (by omega),show (1:Int)=((1:Nat):Int) from rfl,ztN (n:=1) (by omega),zYM]⟩)
  (λn hI H K D=>by
   show (zlL g a most i k n x.Ag.length x).ev H K D=_;unfold zlL;simp only [Wy.ev_i,Wy.ev_k,tT,Nat.lt_irrefl]) fuel 0 (1+n) (by omega) (Nat.zero_le _) trivial
 rw [List.drop_zero,zfY,zbaR] at h;exact h
theorem zbf2 (x:At) (hx:zS1 g x) (a:yC) (most i k:Int) (fuel n:Nat) (hf:x.Items.length<fuel):
  zE3 g fuel a most i k ((1+n:Nat):Int) 0 x=(true,(a,most,i,k,((1+max n (zku x.Items):Nat):Int))):=by
 obtain ⟨⟨h1,h2⟩,⟨h5,h6,h7⟩,h3,h4⟩:=hx
 have h:=zfW (W:=zxT g) (z:=default) (l:=x.Items) (λj (n:Nat)=>(a,most,i,k,(),(n:Int),(j:Int),())) (λ_ _=>(x,())) (λy n=>.inl (max n (1+zbB y.Ann))) (λn=>(a,most,i,k,(n:Int))) (λi n=>True)
  (λj n hi hI=>.inl ⟨_,rfl,trivial,λH K D=>by
   have h8:=h7 _ (zR hi);show (zlP g a most i k n j x).ev H K D=_;unfold zlP;simp only [Wy.ev_i,Wy.ev_k,Wy.ev_h,Wy.ev_bn,Wy.ev_d,tT,hi,h4 _ (zR hi)];rw [zgA (by omega),show (1:Int)=((1:Nat):Int) from rfl,ztN (n:=1) (by omega),zYM]⟩)
  (λn hI H K D=>by
   show (zlP g a most i k n x.Items.length x).ev H K D=_;unfold zlP;simp only [Wy.ev_i,Wy.ev_k,tT,Nat.lt_irrefl]) fuel 0 (1+n) (by omega) (Nat.zero_le _) trivial
 rw [List.drop_zero,zfY,z99] at h;exact h
theorem RNes_12' (x:At) (hx:zS1 g x) (a:yC) (most i k:Int) (fuel:Nat) (hf:x.Ag.length<fuel):zxP g fuel a most i k 1 0 x=(true,(a,most,i,k,((1+zl6 x.Ag:Nat):Int),x)):=by
 have h:=zbf8 g x hx a most i k fuel 0 hf;rw [Nat.zero_max] at h; exact h
theorem zbgZ (a:yC) (i:Nat) (hi:i<a.length) (hla:a.length<=1000000) (l:yD) (el:(a.getD i default).Fs=l) (hl:l.length<=1000000) (hg:∀ f∈l,zS1 g f.At) (fuel n:Nat) (hf:l.length<fuel):
  zHg g fuel a n i 0=(true,(a,((max n (zdn l):Nat):Int),(i:Int))):=by
 have h:=zfW (W:=zzy g) (z:=default) (l:=l) (λk (n:Nat)=>(a,(n:Int),(i:Int),(k:Int),())) (λ_ _=>()) (λy n=>.inl (max n (znk y.At))) (λn=>(a,(n:Int),(i:Int))) (λk n=>True)
  (λk n hk hI=>.inl ⟨_,rfl,trivial,λH K D=>by
   have hx:=hg _ (zR hk);have h5:=hx.2.1.1;show (zm0 g a n i k).ev H K D=_;unfold zm0;simp only [Wy.ev_i,Wy.ev_k,Wy.ev_h,Wy.ev_bn,Wy.ev_d,tT,hi,el,hk,At.eta];generalize l.getD k default=f at *;rw [zC7] at h5 ⊢;by_cases hz:f.At.Kind=0
   ·have e:(f.At.Kind==0)=true:=by simp [hz]
    simp only [e,cond_true];rw [if_pos hz,Nat.max_zero,zgA (by omega)]
   ·have e:(f.At.Kind==0)=false:=by simp [hz]
    have hx1:=hx.1;simp only [e,cond_false];rw [if_neg hz] at h5 ⊢;rw [RNes_12' g _ hx _ _ _ _ _ (by omega)]
    simp only [cond_true,Int.toNat_natCast,At.eta];rw [zbf2 g _ hx _ _ _ _ _ _ (by omega)]
    simp only [cond_true];rw [zgA (by omega),zYM]⟩)
  (λn hI H K D=>by
   show (zm0 g a n i l.length).ev H K D=_;unfold zm0;simp only [Wy.ev_i,Wy.ev_k,tT,hi,el,Nat.lt_irrefl]) fuel 0 n (by omega) (Nat.zero_le _) trivial
 rw [List.drop_zero,zfY,zTW] at h;exact h
theorem zbg2 (l:yC) (hl:l.length<=1000000) (hg:∀ t∈l,t.Fs.length<=1000000/\∀ f∈t.Fs,zS1 g f.At) (fuel n:Nat) (hf:l.length<fuel):
  zHu g fuel l n 0=(true,((max n (zbB l):Nat):Int)):=by
 have h:=zfW (W:=zzv g) (z:=default) (l:=l) (λi (n:Nat)=>(l,(n:Int),(i:Int),())) (λ_ _=>()) (λy n=>.inl (max n (zdn y.Fs))) (λn=>(n:Int)) (λi n=>True)
  (λi n hi hI=>.inl ⟨_,rfl,trivial,λH K D=>by
   obtain ⟨h1,h3⟩:=hg _ (zR hi);have hz:=zSd l i hi;show (zmZ g l n i).ev H K D=_;unfold zmZ;simp only [Wy.ev_i,Wy.ev_k,Wy.ev_h,Wy.ev_bn,Wy.ev_d,tT,hi,At.eta];rw [zbgZ g l i hi hl _ rfl h1 h3 _ _ (by omega)]
   simp only [cond_true];rw [zgA (by omega)]⟩)
  (λn hI H K D=>by
   show (zmZ g l n l.length).ev H K D=_;unfold zmZ;simp only [Wy.ev_i,Wy.ev_k,tT,Nat.lt_irrefl]) fuel 0 n (by omega) (Nat.zero_le _) trivial
 rw [List.drop_zero,zfY,z7q] at h;exact h
end
theorem z5R:∀ (n d:Nat) (a:yC),zF d a->d<=n->d<=100->zgc n a=(true,(zbB a:Int))/\zkF n a=(true,(zbB a:Int))
 | n,0,a,h,hd,hs=>h.elim
 | 0,d+1,a,h,hd,hs=>by omega
 | n+1,d+1,a,h,hd,hs=>by
  have hg:=λy (hy:zF d y)=>z5R n d y hy (by omega) (by omega)
  have hsub:∀ t∈a,t.Fs.length<=1000000/\∀ f∈t.Fs,zS1 (zgc n) f.At/\zS1 (zkF n) f.At:=λt ht=>by
   obtain ⟨h1,h2⟩:=zOM h ht;refine ⟨h1,λf hf=> ?_⟩
   obtain ⟨h3,h4,h5⟩:=h2 f hf;have q1:∀ y∈f.At.Ag,zbB y<=d:=λy hy=>zR9 d y (h4 y hy)
   have q2:∀ y∈f.At.Items,zbB y.Ann<=d:=λy hy=>zR9 d y.Ann (h5 y hy)
   have q3:znk f.At<=1000:=by
    have r1:=z3p _ q1; have r2:=z04 _ q2;rw [zC7]; split <;>omega
   have q4:znk f.At<=1000/\(∀ y∈f.At.Ag,zbB y<=1000)/\∀ y∈f.At.Items,zbB y.Ann<=1000:=⟨q3,λy hy=>by have:=q1 y hy; omega,λy hy=>by have:=q2 y hy; omega⟩
   exact ⟨⟨h3,q4,λy hy=>(hg y (h4 y hy)).1,λy hy=>(hg _ (h5 y hy)).1⟩,⟨h3,q4,λy hy=>(hg y (h4 y hy)).2,λy hy=>(hg _ (h5 y hy)).2⟩⟩
  constructor
  ·rw [zM8];unfold zoJ zBr;have h1:=zbhS (zgc n) a h.1 (λt ht=>⟨(hsub t ht).1,λf hf=>((hsub t ht).2 f hf).1⟩) (Int.toNat 0+a.length+(Int.ofNat a.length).toNat +Int.toNat 0+1) 0 (by omega)
   rw [show ((0:Nat):Int)=(0:Int) from rfl,Nat.zero_max] at h1
   rw [Wy.fin_bn,show Int.ofNat a.length=(a.length:Int) from rfl] at *
   rw [h1]; rfl
  ·rw [zV2];unfold zx5 zIW;have h1:=zbg2 (zkF n) a h.1 (λt ht=>⟨(hsub t ht).1,λf hf=>((hsub t ht).2 f hf).2⟩) (a.length+Int.toNat 0+Int.toNat 0+1+zdR a) 0 (by omega)
   rw [show ((0:Nat):Int)=(0:Int) from rfl,Nat.zero_max] at h1
   rw [Wy.fin_bn,h1]; rfl
theorem zsg (x y:Int):zc1 x y=(true,zdJ x y):=by
 unfold zc1 zI2 zr8 zNX zdJ;by_cases h1:x<y
 ·simp [h1,Wy.fin_i,Wy.fin_k]
 ·by_cases h2:y<x <;>simp [h1,h2,Wy.fin_i,Wy.fin_k]
theorem zEg (x y:Int):ziV x y=(true,zdJ x y):=by
 unfold ziV zEO zno zI3 zdJ;by_cases h1:x<y
 ·simp [h1,Wy.fin_i,Wy.fin_k]
 ·by_cases h2:y<x <;>simp [h1,h2,Wy.fin_i,Wy.fin_k]
def zr4:List Int->Int
 | []=>0
 | x::r=>if x=0 then zr4 r else x
theorem zbbP (l:List Int) (hl:l.length<=1000000):∀ (n i:Nat),l.length<i+n->i<=l.length->∃ r,zH4 n 0 l l.length i=(true,r)/\(r=.inl (zr4 (l.drop i))\/(r=.inr 0/\zr4 (l.drop i)=0))
 | 0,i,h,h2=>by omega
 | n+1,i,h,h2=>by
  show ∃ r,(zID 0 l l.length i).ev (λx y=>zH4 n x.1 x.2.1 x.2.2.1 x.2.2.2.1) (λr=>(true,r)) (false,.inl default)=(true,r)/\_
  unfold zID;by_cases hi:i<l.length
  ·simp only [Wy.ev_i,Wy.ev_k,Wy.ev_h,Int.ofNat_eq_natCast,zbM,zbf,decide_true,decide_false,Bool.and_self,Bool.true_and,Bool.and_true,cond_true,cond_false,Int.toNat_natCast,Bool.not_true,Bool.not_false,hi];obtain ⟨r,h1,h3⟩:=zbbP l hl n (i+1) (by omega) (by omega)
   rw [zZ hi,zV (by omega),h1]
   generalize l.getD i default=x;by_cases hx:x=0
   ·have e:(x != 0)=false:=by simp [hx]
    simp only [e,cond_false,zr4,hx,if_true];exact ⟨r,rfl,h3⟩
   ·have e:(x != 0)=true:=by simp [hx]
    simp only [e,cond_true,zr4,hx,if_false];exact ⟨_,rfl,.inl rfl⟩
  ·simp only [Wy.ev_i,Wy.ev_k,Wy.ev_h,Int.ofNat_eq_natCast,zbM,zbf,decide_true,decide_false,Bool.and_self,Bool.true_and,Bool.and_true,cond_true,cond_false,Int.toNat_natCast,Bool.not_true,Bool.not_false,hi,zci hi];exact ⟨_,rfl,.inr ⟨rfl,rfl⟩⟩
theorem zr5 (l:List Int) (hl:l.length<=1000000):zkO l=(true,zr4 l):=by
 unfold zkO zWN;obtain ⟨r,h1,h2⟩:=zbbP l hl (Int.toNat 0+l.length+(Int.ofNat l.length).toNat +Int.toNat 0+1) 0 (by simp; omega) (by omega)
 rw [show ((0:Nat):Int)=(0:Int) from rfl] at h1
 rw [Wy.fin_bn,show Int.ofNat l.length=(l.length:Int) from rfl] at *
 rw [h1];rw [List.drop_zero] at h2;rcases h2 with rfl | ⟨rfl,h2⟩
 ·rfl
 ·rw [h2]; rfl
section
variable {α:Type}
def zxZ (c:α->α->Int):List α->List α->Int
 | [],[]=>0
 | [],_::_=> -1
 | _::_,[]=>1
 | x::a,y::b=>if c x y=0 then zxZ c a b else c x y
theorem zNL (e:α->TT) {c:α->α->Int}:∀ (a b:List α),(∀ x∈a,∀ y∈b,c x y=zbL (e x) (e y))->zxZ c a b=zbO (a.map e) (b.map e)
 | [],[],_=>by simp only [zxZ,List.map,zbO]
 | [],_::_,_=>by simp only [zxZ,List.map,zbO]
 | _::_,[],_=>by simp only [zxZ,List.map,zbO]
 | x::a,y::b,h=>by
  simp only [zxZ,List.map,zbO];rw [h x (by simp) y (by simp),zNL e a b λx hx y hy=>h x (by simp [hx]) y (by simp [hy])]
variable [Inhabited α]
def z8R (g:α->α->Bool×Int) (s1:List α) (s2:List α) (t11:List α) (t12:Int) (t13:Int):Wy (List α×List α×Unit×List α×Int×Int×Unit) Unit (Int⊕(List α×List α)):=.i (decide (t13<t12)) (.i (decide ((0:Int)<=t13)&&decide (t13<Int.ofNat t11.length)) (.i (decide (t13≥Int.ofNat s2.length)) (.k (.inl (1:Int))) (.i (decide ((0:Int)<=t13)&&decide (t13<Int.ofNat s2.length)) (.bn (g (t11.getD t13.toNat default) (s2.getD t13.toNat default)) λr0=>.i (r0 != (0:Int)) (.k (.inl (r0))) (.h (s1,s2,(),t11,t12,(IntKind.i64.wrap (t13+(1:Int))),()) ())) .d)) .d) (.k (.inr (s1,s2)))
def zbct (g:α->α->Bool×Int) (x:List α×List α×Unit×List α×Int×Int×Unit) (y:Unit):Wy (List α×List α×Unit×List α×Int×Int×Unit) Unit (Int⊕(List α×List α)):=z8R g x.1 x.2.1 x.2.2.2.1 x.2.2.2.2.1 x.2.2.2.2.2.1
def zbcw (g:α->α->Bool×Int) (n:Nat) (s1:List α) (s2:List α) (t11:List α) (t12:Int) (t13:Int):Bool×(Int⊕(List α×List α)):=zH (zbct g) (.inl default) n (s1,s2,(),t11,t12,t13,()) ()
def CF (g:α->α->Bool×Int) (s1 s2:List α):Bool×Int:=(.bn (zbcw g (s1.length+s2.length+s1.length+(Int.ofNat s1.length).toNat +Int.toNat (0:Int)+(1:Nat)) s1 s2 s1 (Int.ofNat s1.length) (0:Int)) λr2=>.i (isL r2) (.k (getL r2)) (.i (decide (Int.ofNat (getR r2).fst.length<Int.ofNat (getR r2).snd.length)) (.k (-1:Int)) (.k (0:Int))):Wy0 Int).fin default
theorem zbbs (g:α->α->Bool×Int) (c:α->α->Int) (a b:List α) (ha:a.length<=1000000) (hg:∀ x∈a,∀ y∈b,g x y=(true,c x y)):∀ (n i:Nat),a.length<i+n->i<=a.length->i<=b.length->
  ∃ r,zbcw g n a b a a.length i=(true,r)/\((r=.inl (zxZ c (a.drop i) (b.drop i)))\/(r=.inr (a,b)/\zxZ c (a.drop i) (b.drop i)=if a.length<b.length then -1 else 0))
 | 0,i,h,h2,h3=>by omega
 | n+1,i,h,h2,h3=>by
  show ∃ r,(z8R g a b a a.length i).ev (λx y=>zbcw g n x.1 x.2.1 x.2.2.2.1 x.2.2.2.2.1 x.2.2.2.2.2.1) (λr=>(true,r)) (false,.inl default)=(true,r)/\_
  unfold z8R;by_cases hi:i<a.length
  ·by_cases hi':i<b.length
   ·have hg':¬ b.length<=i:=by omega
    simp only [Wy.ev_i,Wy.ev_k,Wy.ev_h,Wy.ev_bn,Wy.ev_d,Int.ofNat_eq_natCast,zbM,zbf,decide_true,decide_false,Bool.and_self,Bool.true_and,Bool.and_true,cond_true,cond_false,Int.toNat_natCast,Bool.not_true,Bool.not_false,hi,hi',z4i,hg',hg _ (zR hi) _ (zR hi')];rw [zZ hi,zZ hi',zV (by omega)]
    simp only [zxZ];generalize c (a.getD i default) (b.getD i default)=z;by_cases hx:z=0
    ·have e:(z != 0)=false:=by simp [hx]
     simp only [e,cond_false,hx,if_true];exact zbbs g c a b ha hg n (i+1) (by omega) (by omega) (by omega)
    ·have e:(z != 0)=true:=by simp [hx]
     simp only [e,cond_true,hx,if_false];exact ⟨_,rfl,.inl rfl⟩
   ·have hg':b.length<=i:=by omega
    simp only [Wy.ev_i,Wy.ev_k,Wy.ev_h,Wy.ev_bn,Wy.ev_d,Int.ofNat_eq_natCast,zbM,zbf,decide_true,decide_false,Bool.and_self,Bool.true_and,Bool.and_true,cond_true,cond_false,Int.toNat_natCast,Bool.not_true,Bool.not_false,hi,z4i,hg'];refine ⟨_,rfl,.inl ?_⟩;rw [zZ hi,zci hi']; rfl
  ·simp only [Wy.ev_i,Wy.ev_k,Wy.ev_h,Wy.ev_bn,Wy.ev_d,Int.ofNat_eq_natCast,zbM,zbf,decide_true,decide_false,Bool.and_self,Bool.true_and,Bool.and_true,cond_true,cond_false,Int.toNat_natCast,Bool.not_true,Bool.not_false,hi];refine ⟨_,rfl,.inr ⟨rfl, ?_⟩⟩;rw [zci hi];by_cases hi':i<b.length
   ·rw [zZ hi',if_pos (by omega)]; rfl
   ·rw [zci hi',if_neg (by omega)]; rfl
theorem zbhU (g:α->α->Bool×Int) (c:α->α->Int) (a b:List α) (ha:a.length<=1000000) (hg:∀ x∈a,∀ y∈b,g x y=(true,c x y)):CF g a b=(true,zxZ c a b):=by
 unfold CF;obtain ⟨r,h1,h2⟩:=zbbs g c a b ha hg (a.length+b.length+a.length+(Int.ofNat a.length).toNat +Int.toNat 0+1) 0 (by simp; omega) (by omega) (by omega)
 rw [show ((0:Nat):Int)=(0:Int) from rfl] at h1
 rw [Wy.fin_bn,show Int.ofNat a.length=(a.length:Int) from rfl] at *
 rw [h1];simp only [List.drop_zero] at h2;rcases h2 with rfl | ⟨rfl,h2⟩
 ·rfl
 ·rw [h2];simp only [Wy.fin_i,Wy.fin_k,Int.ofNat_eq_natCast,zbM,zbf,decide_true,decide_false,Bool.and_self,Bool.true_and,Bool.and_true,cond_true,cond_false,Int.toNat_natCast,Bool.not_true,Bool.not_false,isL,getR];by_cases h3:a.length<b.length <;>simp [h3]
end
theorem zYW {α:Type} [Inhabited α] (e:α->TT) (g:α->α->Bool×Int) (a b:List α) (ha:a.length<=1000000) (hg:∀ x∈a,∀ y∈b,g x y=(true,zbL (e x) (e y))):CF g a b=(true,zbO (a.map e) (b.map e)):=by
 rw [zbhU g (λx y=>zbL (e x) (e y)) a b ha hg,zNL e a b λ_ _ _ _=>rfl]
theorem Fc.eta2 (x:Fc):(FO.mk (At.mk x.At.Kind x.At.Row x.At.Ag x.At.Func x.At.Items x.At.Op x.At.Bd) x.Exp:Fc)=x:=by rw [At.eta]
theorem zbe7 (g):zbS g=CF g:=rfl
theorem zbcJ (g):zby g=CF g:=by
 have h:zbP g=zbct g:=by
  funext x y
  unfold zbP zdY zbct z8R;rw [Fc.eta2,Fc.eta2]
 funext a b
 unfold zby zd4 zdZ;rw [h]; rfl
theorem zbgq (g):zbs g=CF g:=rfl
theorem zbeY (g):zbI g=CF g:=rfl
theorem zLk (a b:Value):zr6 a b=(true,zbL (trV a) (trV b)):=by
 unfold zr6 zNv;have h:(strings_Compare a.Text b.Text).2=zbL (trB a.Text) (trB b.Text):=by rw [<- zbbi]; rfl
 simp only [zsg,zEg,Wy.fin_bn,cond_true,h];rw [zr5 _ (by simp)]
 simp only [Wy.fin_k,cond_true,trV,zbL,zbO,zr4];rfl
theorem zRq:∀ n,
  (∀ d a b,zF d a->10*d<=n->zgi n a b=(true,zbO (zdr a) (zdr b)))/\
  (∀ d a b,zF d a->10*d<=n+1->zbR n a b=(true,zbO (zdr a) (zdr b)))/\
  (∀ d x y,zgv (zF d) x.Fs->10*d+10<=n+2->ziA n x y=(true,zbL (zzA x) (zzA y)))/\
  (∀ d x y,zgv (zF d) x.Fs->10*d+10<=n+3->zgZ n x y=(true,zbO (zb0 x.Fs) (zb0 y.Fs)))/\
  (∀ d l l',zgv (zF d) l->10*d+10<=n+4->zbW n l l'=(true,zbO (zb0 l) (zb0 l')))/\
  (∀ d x y,zex (zF d) x.At->10*d+10<=n+5->zf0 n x y=(true,zbL (zp7 x) (zp7 y)))/\
  (∀ d x y,zex (zF d) x->10*d+10<=n+6->zg0 n x y=(true,zbL (zfg x) (zfg y)))/\
  (∀ d a b,a.length<=1000000->(∀ x∈a,zF d x)->10*d+10<=n+7->zbu n a b=(true,zbO (zwS a) (zwS b)))/\
  (∀ d a b,a.length<=1000000->(∀ x∈a,zF d x.Ann)->10*d+10<=n+7->zbJ n a b=(true,zbO (zhd a) (zhd b)))/\
  (∀ d x y,zF d x.Ann->10*d+10<=n+8->ze7 n x y=(true,zbL (zgm x) (zgm y)))
 | 0=>by
  refine ⟨?_, ?_, ?_, ?_, ?_, ?_, ?_, ?_, ?_, ?_⟩
  ·intro d a b h hd; have:d=0:=by omega
   subst this; exact h.elim
  ·intro d a b h hd; have:d=0:=by omega
   subst this; exact h.elim
  all_goals (intros; omega)
 | n+1=>by
  obtain ⟨h1,h2,h3,h4,h5,h6,h7,h8,h9,h10⟩:=zRq n;refine ⟨?_, ?_, ?_, ?_, ?_, ?_, ?_, ?_, ?_, ?_⟩
  ·intro d a b h hd;rw [zMx];unfold zoA zBb;rw [Wy.fin_bn,h2 d a b h (by omega)]; rfl
  ·intro d a b h hd;cases d with
   | zero=>exact h.elim
   | succ d=>
    rw [zhY,zbe7,zG8,zG8];exact zYW zzA _ a b h.1 λx hx y hy=>h3 d x y (h.2 x hx) (by omega)
  ·intro d x y h hd;rw [zIM];unfold zlz zys;rw [Wy.fin_bn,h4 d x y h (by omega)]
   simp only [cond_true,Wy.fin_bn,zEg];rw [zr5 _ (by simp)]
   obtain ⟨c,l⟩:=x; obtain ⟨c',l'⟩:=y;simp only [cond_true,Wy.fin_k,zr4,zzA,zbL,zbO];rfl
  ·intro d x y h hd;rw [zF4];unfold zka zvW;rw [Wy.fin_bn,h5 d _ _ h (by omega)]; rfl
  ·intro d l l' h hd;rw [ziy,zbcJ,zxq,zxq];exact zYW zp7 _ l l' h.1 λx hx y hy=>h6 d x y (h.2 x hx) (by omega)
  ·intro d x y h hd;rw [zDI];unfold zi9 ztQ;rw [At.eta,At.eta,Wy.fin_bn,h7 d _ _ h (by omega)]
   simp only [cond_true,Wy.fin_bn,zsg];rw [zr5 _ (by simp)]
   obtain ⟨c,l⟩:=x; obtain ⟨c',l'⟩:=y;simp only [cond_true,Wy.fin_k,zr4,zp7,zbL,zbO];rfl
  ·intro d x y h hd;rw [zGc];unfold zki zvF;simp only [cond_true,Wy.fin_bn,zsg,zLk,h8 d x.Ag y.Ag h.1.1 h.2.1 (by omega),h9 d x.Items y.Items h.1.2.1 (λw hw=>(h.2.2 w hw).2) (by omega)]
   rw [zr5 _ (by simp)]
   obtain ⟨k,r,a,f,i,o,v⟩:=x; obtain ⟨k',r',a',f',i',o',v'⟩:=y;simp only [cond_true,Wy.fin_k,zr4,zfg,zbL,zbO];rfl
  ·intro d a b h0 h hd;rw [zfr,zbgq,zDS,zDS];exact zYW (λx=>TT.l (zdr x)) _ a b h0 λx hx y hy=>by rw [h1 d x y (h x hx) (by omega)]; simp only [zbL]
  ·intro d a b h0 h hd;rw [zgx,zbeY,ztm,ztm];exact zYW zgm _ a b h0 λx hx y hy=>h10 d x y (h x hx) (by omega)
  ·intro d x y h hd;rw [zFQ];unfold zkb zvI;simp only [cond_true,Wy.fin_bn,zLk,h1 d _ _ h (by omega)]
   rw [zr5 _ (by simp)]
   obtain ⟨c,l⟩:=x; obtain ⟨c',l'⟩:=y;simp only [cond_true,Wy.fin_k,zr4,zgm,zbL,zbO];rfl
theorem zRm {d:Nat} {a:yC} (h:zF d a) (hd:d<=100) (b:yC):zzz a b=(true,zbO (zdr a) (zdr b)):=(zRq 1000).1 d a b h (by omega)
theorem zIA {d:Nat} {x:Term} (h:zgv (zF d) x.Fs) (hd:d<=99) (y:Term):zcl x y=(true,zbO (zb0 x.Fs) (zb0 y.Fs)):=(zRq 1000).2.2.2.1 d x y h (by omega)
theorem zIo {d:Nat} {x:At} (h:zex (zF d) x) (hd:d<=99) (y:At):ziI x y=(true,zbL (zfg x) (zfg y)):=(zRq 1000).2.2.2.2.2.2.1 d x y h (by omega)
theorem zIE {d:Nat} {x:Wd} (h:zF d x.Ann) (hd:d<=99) (y:Wd):zbA x y=(true,zbL (zgm x) (zgm y)):=(zRq 1000).2.2.2.2.2.2.2.2.2 d x y h (by omega)
theorem zUn {d:Nat} {a:yC} (h:zF d a) (hd:d<=100) (b:yC):zhL a b=(true,decide (a=b)):=by
 unfold zhL zGL;rw [Wy.fin_bn,zRm h hd];simp only [cond_true,Wy.fin_k];congr 1;by_cases e:a=b
 ·subst e; rw [zXo]; simp
 ·have:zbO (zdr a) (zdr b)≠0:=λh=>e (zG4 _ _ (zKv _ _ h))
  simp [e,this]
theorem z07 (s:ByteArray):∀ (n i:Nat) (r:List UInt8),s.size<=i+n->ByteArray.toList.loop s i r=r.reverse++s.data.toList.drop i
 | 0,i,r,h=>by
  rw [ByteArray.toList.loop,if_neg (by omega),List.drop_eq_nil_of_le (by rw [<- Lib.size_eq]; omega),List.append_nil]
 | n+1,i,r,h=>by
  rw [ByteArray.toList.loop];by_cases hi:i<s.size
  ·have hi':i<s.data.toList.length:=by rw [<- Lib.size_eq]; exact hi
   rw [if_pos hi,z07 s n (i+1) _ (by omega),List.drop_eq_getElem_cons hi',List.reverse_cons,List.append_assoc]
   congr 1
   have:s.get! i=s.data.toList[i]:=by
    have h':i<s.data.size:=hi;show s.data[i]! =s.data.toList[i];rw [getElem!_pos s.data i h']; rfl
   rw [this]; rfl
  ·rw [if_neg hi,List.drop_eq_nil_of_le (by rw [<- Lib.size_eq]; omega),List.append_nil]
theorem toList_eq (s:ByteArray):s.toList=s.data.toList:=by
 rw [ByteArray.toList,z07 s s.size 0 [] (by omega)]; rfl
theorem zG5 {s t:ByteArray} (h:s.data.toList=t.data.toList):s=t:=by
 cases s; cases t;congr 1;exact Array.toList_inj.1 h
theorem zbck (s t:ByteArray):(s.toList==t.toList)=decide (s.data.toList=t.data.toList):=by
 rw [toList_eq,toList_eq];cases hb:(s.data.toList==t.data.toList) with
 | true=>rw [decide_eq_true (beq_iff_eq.1 hb)]
 | false=>rw [decide_eq_false (λh=>by rw [beq_iff_eq.2 h] at hb; cases hb)]
theorem zWw (s t:ByteArray):(s.toList==t.toList)=decide (s=t):=by
 rw [zbck];by_cases h:s=t
 ·rw [decide_eq_true h,decide_eq_true (by rw [h])]
 ·rw [decide_eq_false h,decide_eq_false λe=>h (zG5 e)]
theorem zS6 (z w:Int):(z != w)= !decide (z=w):=by by_cases h:z=w <;>simp [h]
theorem zTR:∀ a b:List UInt8,Op.bytesLess a b=decide (Lib.compareBytes a b<0)
 | [],[]=>by simp [Op.bytesLess,Lib.compareBytes]
 | _::_,[]=>by simp [Op.bytesLess,Lib.compareBytes]
 | [],_::_=>by simp [Op.bytesLess,Lib.compareBytes]
 | x::a,y::b=>by
  simp only [Op.bytesLess,Lib.compareBytes];by_cases p:x<y
  ·simp [p]
  ·by_cases q:y<x
   ·have hne:¬ x=y:=λe=>by subst e; exact p q
    simp [p,q,hne]
   ·have he:x=y:=UInt8.toNat_inj.1 (by rw [UInt8.lt_iff_toNat_lt] at p q; omega)
    subst he;simp [p,zTR a b]
theorem zMc (a b:Value):znK a b=(true,zbL (trV a) (trV b)):=by
 unfold znK zN6 zz5 zYb;rw [zWw,toList_eq,toList_eq,zTR,zbbi];simp only [trV,zbL,zbO,zdJ];simp only [Wy.fin_i,Wy.fin_bn,Wy.fin_k,cond_true,zS6];by_cases h1:a.Kind=b.Kind
 ·by_cases h2:a.Int=b.Int
  ·by_cases h3:a.Text=b.Text
   ·simp [h1,h2,h3,zX1]
   ·have h4:zbL (trB a.Text) (trB b.Text)≠0:=λe=>by
     have:=zHZ _ _ (TT.l.inj (zzY _ _ e));exact h3 (zG5 this)
    have h5:=z9T (trB a.Text) (trB b.Text);simp only [trB,zbL] at h4 h5;simp only [trB,zbL];rcases h5 with h5 | h5 | h5
    ·simp [h1,h2,h3,h5]
    ·exact absurd h5 h4
    ·simp [h1,h2,h3,h5]
  ·by_cases h3:a.Int<b.Int
   ·simp [h1,h2,h3]
   ·simp [h1,h2,h3,show b.Int<a.Int by omega]
 ·by_cases h3:a.Kind<b.Kind
  ·simp [h1,h3]
  ·simp [h1,h3,show b.Kind<a.Kind by omega]
theorem zsO (x y:Int):zc0 x y=(true,zdJ x y):=by
 unfold zc0 zPW zdJ;by_cases h1:x<y
 ·simp [h1,Wy.fin_i,Wy.fin_k]
 ·by_cases h2:y<x <;>simp [h1,h2,Wy.fin_i,Wy.fin_k]
theorem zET (x y:RowID):zhW x y=(true,if zdJ x.Table y.Table=0 then zdJ x.Seq y.Seq else zdJ x.Table y.Table):=by
 unfold zhW zG6;simp only [zsO,Wy.fin_i,Wy.fin_bn,Wy.fin_k,cond_true,zS6];by_cases h:zdJ x.Table y.Table=0
 ·simp [h]
 ·simp [h]
section
variable {α:Type} [Inhabited α]
def z8I (p q:α->α->Bool×Int) (a:List α) (b:List α) (i:Int):Wy (List α×List α×Int×Unit) Unit (Int⊕(List α×List α)):=.i (decide (i<Int.ofNat a.length)) (.i (decide (i<Int.ofNat b.length)) (.i (decide ((0:Int)<=i)&&decide (i<Int.ofNat a.length)) (.i (decide ((0:Int)<=i)&&decide (i<Int.ofNat b.length)) (.bn (p (a.getD i.toNat default) (b.getD i.toNat default)) λr1=>.i (r1 != (0:Int)) (.k (.inl (r1))) (.i (decide ((0:Int)<=i)&&decide (i<Int.ofNat a.length)) (.i (decide ((0:Int)<=i)&&decide (i<Int.ofNat b.length)) (.bn (q (a.getD i.toNat default) (b.getD i.toNat default)) λr0=>.i (r0 != (0:Int)) (.k (.inl (r0))) (.h (a,b,(IntKind.i64.wrap (i+(1:Int))),()) ())) .d) .d)) .d) .d) (.k (.inr (a,b)))) (.k (.inr (a,b)))
def zbcX (p q:α->α->Bool×Int) (x:List α×List α×Int×Unit) (y:Unit):Wy (List α×List α×Int×Unit) Unit (Int⊕(List α×List α)):=z8I p q x.1 x.2.1 x.2.2.1
def zbcU (p q:α->α->Bool×Int) (n:Nat) (a:List α) (b:List α) (i:Int):Bool×(Int⊕(List α×List α)):=zH (zbcX p q) (.inl default) n (a,b,i,()) ()
def RG (p q:α->α->Bool×Int) (a b:List α):Bool×Int:=(.bn (zbcU p q (a.length+b.length+Int.toNat (0:Int)+(1:Nat)) a b (0:Int)) λr5=>.i (isL r5) (.k (getL r5)) (.bn (zc0 (Int.ofNat (getR r5).fst.length) (Int.ofNat (getR r5).snd.length)) λr4=>.k r4):Wy0 Int).fin default
theorem zbbV (p q:α->α->Bool×Int) (c1 c2:α->α->Int) (a b:List α) (ha:a.length<=1000000) (hp:∀ x∈a,∀ y∈b,p x y=(true,c1 x y)) (hq:∀ x∈a,∀ y∈b,q x y=(true,c2 x y)):∀ (n i:Nat),a.length<i+n->i<=a.length->i<=b.length->
  ∃ r,zbcU p q n a b i=(true,r)/\((r=.inl (zxZ (λx y=>if c1 x y=0 then c2 x y else c1 x y) (a.drop i) (b.drop i)))\/(r=.inr (a,b)/\zxZ (λx y=>if c1 x y=0 then c2 x y else c1 x y) (a.drop i) (b.drop i)=zdJ a.length b.length))
 | 0,i,h,h2,h3=>by omega
 | n+1,i,h,h2,h3=>by
  show ∃ r,(z8I p q a b i).ev (λx y=>zbcU p q n x.1 x.2.1 x.2.2.1) (λr=>(true,r)) (false,.inl default)=(true,r)/\_
  unfold z8I;by_cases hi:i<a.length
  ·by_cases hi':i<b.length
   ·simp only [Wy.ev_i,Wy.ev_k,Wy.ev_h,Wy.ev_bn,Wy.ev_d,tT,hi,hi',hp _ (zR hi) _ (zR hi'),hq _ (zR hi) _ (zR hi')];rw [zZ hi,zZ hi',zV (by omega)]
    simp only [zxZ];generalize c1 (a.getD i default) (b.getD i default)=z1;generalize c2 (a.getD i default) (b.getD i default)=z2;by_cases hx:z1=0
    ·have e:(z1 != 0)=false:=by simp [hx]
     by_cases hx2:z2=0
     ·have e2:(z2 != 0)=false:=by simp [hx2]
      simp only [e,e2,cond_false,hx,hx2,if_true];exact zbbV p q c1 c2 a b ha hp hq n (i+1) (by omega) (by omega) (by omega)
     ·have e2:(z2 != 0)=true:=by simp [hx2]
      simp only [e,e2,cond_false,cond_true,hx,hx2,if_true,if_false];exact ⟨_,rfl,.inl rfl⟩
    ·have e:(z1 != 0)=true:=by simp [hx]
     simp only [e,cond_true,hx,if_false];exact ⟨_,rfl,.inl rfl⟩
   ·simp only [Wy.ev_i,Wy.ev_k,Wy.ev_h,Wy.ev_bn,Wy.ev_d,tT,hi,hi'];refine ⟨_,rfl,.inr ⟨rfl, ?_⟩⟩;rw [zZ hi,zci hi'];unfold zdJ; rw [if_neg (by omega),if_pos (by omega)]; rfl
  ·simp only [Wy.ev_i,Wy.ev_k,Wy.ev_h,Wy.ev_bn,Wy.ev_d,tT,hi];refine ⟨_,rfl,.inr ⟨rfl, ?_⟩⟩;rw [zci hi];by_cases hi':i<b.length
   ·rw [zZ hi']; unfold zdJ; rw [if_pos (by omega)]; rfl
   ·rw [zci hi']; unfold zdJ; rw [if_neg (by omega),if_neg (by omega)]; rfl
theorem zbhE (p q:α->α->Bool×Int) (c1 c2:α->α->Int) (a b:List α) (ha:a.length<=1000000) (hp:∀ x∈a,∀ y∈b,p x y=(true,c1 x y)) (hq:∀ x∈a,∀ y∈b,q x y=(true,c2 x y)):RG p q a b=(true,zxZ (λx y=>if c1 x y=0 then c2 x y else c1 x y) a b):=by
 unfold RG;obtain ⟨r,h1,h2⟩:=zbbV p q c1 c2 a b ha hp hq (a.length+b.length+Int.toNat 0+1) 0 (by simp; omega) (by omega) (by omega)
 rw [show ((0:Nat):Int)=(0:Int) from rfl] at h1
 rw [Wy.fin_bn,h1];simp only [List.drop_zero] at h2;rcases h2 with rfl | ⟨rfl,h2⟩
 ·rfl
 ·rw [h2];simp only [Wy.fin_i,Wy.fin_k,Wy.fin_bn,zsO,tT,isL,getR]
end
theorem z5Y {α:Type} [Inhabited α] (e:α->TT) (p q:α->α->Bool×Int) (c1 c2:α->α->Int) (a b:List α) (ha:a.length<=1000000) (hp:∀ x∈a,∀ y∈b,p x y=(true,c1 x y)) (hq:∀ x∈a,∀ y∈b,q x y=(true,c2 x y))
  (hc:∀ x y,(if c1 x y=0 then c2 x y else c1 x y)=zbL (e x) (e y)):RG p q a b=(true,zbO (a.map e) (b.map e)):=by
 rw [zbhE p q c1 c2 a b ha hp hq,zNL e a b λx _ y _=>hc x y]
theorem zbej (g):zya g=RG (λx y=>g x.Fs y.Fs) (λx y=>zc0 x.Cf y.Cf):=rfl
theorem zbcM (g):zju g=RG (λx y=>g x.At y.At) (λx y=>zc0 x.Exp y.Exp):=by
 have h:zj9 g=zbcX (λx y=>g x.At y.At) (λx y=>zc0 x.Exp y.Exp):=by
  funext x y
  unfold zj9 zyo zbcX z8I;rw [At.eta,At.eta]
 funext a b
 unfold zju zy0 zyt;rw [h]; rfl
theorem zbeh (g):zos g=RG (λx y=>znK x.Value y.Value) (λx y=>g x.Ann y.Ann):=rfl
theorem z7n (gI) (g:yC->yC->Bool×Int) (a b:At) (ha:a.Ag.length<=1000000) (hg:∀ x∈a.Ag,∀ y∈b.Ag,g x y=(true,zbO (zdr x) (zdr y))):∀ (n i:Nat),a.Ag.length<i+n->i<=a.Ag.length->i<=b.Ag.length->
  ∃ r,ztF g gI n i a b=(true,r)/\((r=.inl (zxZ (λx y=>zbO (zdr x) (zdr y)) (a.Ag.drop i) (b.Ag.drop i))/\zxZ (λx y=>zbO (zdr x) (zdr y)) (a.Ag.drop i) (b.Ag.drop i)≠0)\/(r=.inr (a,b)/\zxZ (λx y=>zbO (zdr x) (zdr y)) (a.Ag.drop i) (b.Ag.drop i)=zdJ a.Ag.length b.Ag.length))
 | 0,i,h,h2,h3=>by omega
 | n+1,i,h,h2,h3=>by
  show ∃ r,(ztc g gI i a b).ev (λx y=>ztF g gI n x.2.2.1 y.1 y.2.1) (λr=>(true,r)) (false,.inl default)=(true,r)/\_
  unfold ztc;by_cases hi:i<a.Ag.length
  ·by_cases hi':i<b.Ag.length
   ·simp only [Wy.ev_i,Wy.ev_k,Wy.ev_h,Wy.ev_bn,Wy.ev_d,tT,hi,hi',hg _ (zR hi) _ (zR hi')];rw [zZ hi,zZ hi',zV (by omega)]
    simp only [zxZ];generalize zbO (zdr (a.Ag.getD i default)) (zdr (b.Ag.getD i default))=z1;by_cases hx:z1=0
    ·have e:(z1 != 0)=false:=by simp [hx]
     simp only [e,cond_false,hx,if_true];exact z7n gI g a b ha hg n (i+1) (by omega) (by omega) (by omega)
    ·have e:(z1 != 0)=true:=by simp [hx]
     simp only [e,cond_true,hx,if_false];exact ⟨_,rfl,.inl ⟨rfl,hx⟩⟩
   ·simp only [Wy.ev_i,Wy.ev_k,Wy.ev_h,Wy.ev_bn,Wy.ev_d,tT,hi,hi'];refine ⟨_,rfl,.inr ⟨rfl, ?_⟩⟩;rw [zZ hi,zci hi'];unfold zdJ; rw [if_neg (by omega),if_pos (by omega)]; rfl
  ·simp only [Wy.ev_i,Wy.ev_k,Wy.ev_h,Wy.ev_bn,Wy.ev_d,tT,hi];refine ⟨_,rfl,.inr ⟨rfl, ?_⟩⟩;rw [zci hi];by_cases hi':i<b.Ag.length
   ·rw [zZ hi']; unfold zdJ; rw [if_pos (by omega)]; rfl
   ·rw [zci hi']; unfold zdJ; rw [if_neg (by omega),if_neg (by omega)]; rfl
theorem zbf3 (gI) (g:yC->yC->Bool×Int) (x y:At) (ha:x.Ag.length<=1000000) (hg:∀ a∈x.Ag,∀ b∈y.Ag,g a b=(true,zbO (zdr a) (zdr b)))
  (hI:gI x.Items y.Items=(true,zbO (zhd x.Items) (zhd y.Items))):zlV g gI x y=(true,zbL (zfg x) (zfg y)):=by
 unfold zlV zCp;rw [At.eta,At.eta];obtain ⟨r,h1,h2⟩:=z7n gI g x y ha hg (Int.toNat 0+x.Ag.length+x.Items.length+y.Ag.length+y.Items.length+1) 0 (by omega) (by omega) (by omega)
 rw [show ((0:Nat):Int)=(0:Int) from rfl] at h1
 simp only [List.drop_zero] at h2;rw [zNL (λa=>TT.l (zdr a)) x.Ag y.Ag (λa _ b _=>by simp only [zbL]), <- zDS, <- zDS] at h2
 simp only [zsO,zET,Wy.fin_bn,Wy.fin_i,Wy.fin_k,cond_true,h1];obtain ⟨k,r0,a,f,i,o,v⟩:=x; obtain ⟨k',r',a',f',i',o',v'⟩:=y;simp only [zfg,zbL,zbO,zS6] at *;by_cases e1:zdJ k k'=0
 rotate_left
 ·simp [e1]
 by_cases e2:zdJ r0.Table r'.Table=0
 rotate_left
 ·simp [e1,e2]
 by_cases e3:zdJ r0.Seq r'.Seq=0
 rotate_left
 ·simp [e1,e2,e3]
 rcases h2 with ⟨rfl,h2⟩ | ⟨rfl,h2⟩
 ·simp [e1,e2,e3,h2,isL,getL]
 simp only [e1,e2,e3,h2,isL,getR,tT,hI,if_true];by_cases e4:zdJ (a.length:Int) (a'.length:Int)=0
 rotate_left
 ·simp [e4]
 by_cases e5:zdJ f f'=0
 rotate_left
 ·simp [e4,e5]
 by_cases e6:zbO (zhd i) (zhd i')=0
 rotate_left
 ·simp [e4,e5,e6]
 by_cases e7:zdJ o o'=0
 rotate_left
 ·simp [e4,e5,e6,e7]
 simp [e4,e5,e6,e7,zMc]
theorem zLi:∀ n,
  (∀ d a b,zF d a->10*d<=n->znh n a b=(true,zbO (zdr a) (zdr b)))/\
  (∀ d l l',zgv (zF d) l->10*d+10<=n+1->zjm n l l'=(true,zbO (zb0 l) (zb0 l')))/\
  (∀ d x y,zex (zF d) x->10*d+10<=n+2->zlU n x y=(true,zbL (zfg x) (zfg y)))/\
  (∀ d a b,a.length<=1000000->(∀ x∈a,zF d x.Ann)->10*d+10<=n+3->zkS n a b=(true,zbO (zhd a) (zhd b)))
 | 0=>by
  refine ⟨?_, ?_, ?_, ?_⟩
  ·intro d a b h hd; have:d=0:=by omega
   subst this; exact h.elim
  all_goals (intros; omega)
 | n+1=>by
  obtain ⟨h1,h2,h3,h4⟩:=zLi n;refine ⟨?_, ?_, ?_, ?_⟩
  ·intro d a b h hd;cases d with
   | zero=>exact h.elim
   | succ d=>
    rw [zX4,zbej,zG8,zG8]
    exact z5Y zzA _ _ (λx y=>zbO (zb0 x.Fs) (zb0 y.Fs)) (λx y=>zdJ x.Cf y.Cf) a b h.1 (λx hx y hy=>h2 d _ _ (h.2 x hx) (by omega)) (λx _ y _=>zsO _ _) λx y=>by
     obtain ⟨c,l⟩:=x; obtain ⟨c',l'⟩:=y;simp only [zzA,zbL,zbO];by_cases e:zdJ c c'=0 <;>simp [e]
  ·intro d l l' h hd;rw [zJQ,zbcM,zxq,zxq]
   exact z5Y zp7 _ _ (λx y=>zbL (zfg x.At) (zfg y.At)) (λx y=>zdJ x.Exp y.Exp) l l' h.1 (λx hx y hy=>h3 d _ _ (h.2 x hx) (by omega)) (λx _ y _=>zsO _ _) λx y=>by
    obtain ⟨c,l⟩:=x; obtain ⟨c',l'⟩:=y;simp only [zp7,zbL,zbO];by_cases e:zdJ l l'=0 <;>simp [e]
  ·intro d x y h hd;rw [zPr];exact zbf3 _ _ x y h.1.1 (λa ha b _=>h1 d a b (h.2.1 a ha) (by omega)) (h4 d _ _ h.1.2.1 (λw hw=>(h.2.2 w hw).2) (by omega))
  ·intro d a b h0 h hd;rw [zMN,zbeh,ztm,ztm]
   exact z5Y zgm _ _ (λx y=>zbL (trV x.Value) (trV y.Value)) (λx y=>zbO (zdr x.Ann) (zdr y.Ann)) a b h0 (λx _ y _=>zMc _ _) (λx hx y _=>h1 d _ _ (h x hx) (by omega)) λx y=>by
    obtain ⟨c,l⟩:=x; obtain ⟨c',l'⟩:=y;simp only [zgm,zbL,zbO];by_cases e:zbO (zdr l) (zdr l')=0 <;>simp [e]
theorem z1o {d:Nat} {a:yC} (h:zF d a) (hd:d<=100) (b:yC):zH9 a b=(true,zbO (zdr a) (zdr b)):=(zLi 1000).1 d a b h (by omega)
theorem zMZ {d:Nat} {l:yD} (h:zgv (zF d) l) (hd:d<=99) (l':yD):zkv l l'=(true,zbO (zb0 l) (zb0 l')):=(zLi 1000).2.1 d l l' h (by omega)
theorem zTg {d:Nat} {x:At} (h:zex (zF d) x) (hd:d<=99) (y:At):zlf x y=(true,zbL (zfg x) (zfg y)):=(zLi 1000).2.2.1 d x y h (by omega)
theorem zQE {d:Nat} {a:yE} (h0:a.length<=1000000) (h:∀ x∈a,zF d x.Ann) (hd:d<=99) (b:yE):zyQ a b=(true,zbO (zhd a) (zhd b)):=(zLi 1000).2.2.2 d a b h0 h (by omega)
theorem z8p {d:Nat} {a:yC} (h:zF d a) (hd:d<=100) (b:yC):zwB a b=(true,decide (a=b)):=by
 unfold zwB zVP;rw [Wy.fin_bn,z1o h hd];simp only [cond_true,Wy.fin_k];congr 1;by_cases e:a=b
 ·subst e; rw [zXo]; simp
 ·have:zbO (zdr a) (zdr b)≠0:=λh=>e (zG4 _ _ (zKv _ _ h))
  simp [e,this]
end Go.Proofs.YtljlfiomikifjaaGreatDoor
end
