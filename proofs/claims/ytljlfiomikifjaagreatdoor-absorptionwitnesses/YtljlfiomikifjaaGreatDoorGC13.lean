/- Texts of this claim, joined (the program, its functions in plain words, and what they compute). -/
import Derived.Test.YtljlfiomikifjaaGreatDoorGC12
set_option autoImplicit false
set_option linter.unusedVariables false
set_option linter.unusedSectionVars false
set_option linter.unusedSimpArgs false
set_option maxRecDepth 1000000
set_option maxHeartbeats 0
/- Families of sets of row identifiers: what the program's functions compute. -/
noncomputable section
namespace Go.Proofs.YtljlfiomikifjaaGreatDoor
open Go Go.Ab
theorem z0Q (l:yB) (hl:l.length<=1000000) (hz:∀ s∈l,s.length<=1000000):∀ (n i:Nat) (o:yB),l.length<i+n->i<=l.length->o.length<=i->zqx n l l.length i o=(true,o++(l.drop i).map nR)
 | 0,i,o,h,h2,h3=>by omega
 | n+1,i,o,h,h2,h3=>by
  rw [zUL];unfold zBR;by_cases hi:i<l.length
  ·have e1:(o.length+1)*24<=z7:=zBW (by omega) (by omega)
   simp only [Wy.ev_i,Wy.ev_k,Wy.ev_h,Wy.ev_bn,Wy.ev_d,Int.ofNat_eq_natCast,zbM,zbf,decide_true,decide_false,Bool.and_self,Bool.true_and,Bool.and_true,cond_true,cond_false,Int.toNat_natCast,eqR,eqR',Bool.not_true,Bool.not_false,bnd,hi,zx0 _ (hz _ (zR hi)),List.length_singleton,e1];rw [zV (by omega),zZ hi,z0Q l hl hz n (i+1) _ (by omega) (by omega) (by simp; omega)]
   simp
  ·simp only [Wy.ev_i,Wy.ev_k,Wy.ev_h,Wy.ev_bn,Wy.ev_d,Int.ofNat_eq_natCast,zbM,zbf,decide_true,decide_false,Bool.and_self,Bool.true_and,Bool.and_true,cond_true,cond_false,Int.toNat_natCast,eqR,eqR',Bool.not_true,Bool.not_false,bnd,hi,zci hi]; simp
theorem zKE (l:yB) (hl:l.length<=1000000) (hz:∀ s∈l,s.length<=1000000):zli l=(true,fam l):=by
 rw [z27];rw [show (0:Int)=((0:Nat):Int) from rfl,show Int.ofNat l.length=(l.length:Int) from rfl,z0Q l hl hz _ 0 [] (by simp; omega) (by omega) (by simp)]
 simp only [bnd,cond_true,List.drop_zero,List.nil_append]
 have hz':∀ z∈l.map nR,z.length<=1000000:=λz hz''=>by
  obtain ⟨s,hs,rfl⟩:=List.mem_map.1 hz'';exact Nat.le_trans (zQH s) (hz s hs)
 have ok:SortOK (λa b=>zee a b) (l.map nR):=z7v zpL (by simp; omega) λx hx y hy=>zCG x y (hz' x hx) (hz' y hy)
 have e:zcw (l.map nR)=(true,zfo (λa b=>zee a b) (l.map nR)):=by
  unfold zcw zwH;rw [decide_eq_true ok]
 rw [e];simp only [cond_true];rw [zRe _ (λz h=>hz' z ((zge _ _).mem_iff.1 h)) (by rw [(zge _ _).length_eq]; simpa using hl)]
 simp only [cond_true];rw [z68 zpL (λx y=>by simp) ok λx hx y hy=>by rw [zCG x y (hz' x hx) (hz' y hy)]]
theorem zXl (m:Nat) (hm:m<=1000000):∀ (n i:Nat) (o:List Int),m<i+n->i<=m->o.length=m->o.take i=(zF1 m).take i->zn3 n m i o=(true,zF1 m)
 | 0,i,o,h,h2,h3,h4=>by omega
 | n+1,i,o,h,h2,h3,h4=>by
  rw [zSs];unfold zAX;by_cases hi:i<m
  ·have hi':i<o.length:=by omega
   simp only [Wy.ev_i,Wy.ev_k,Wy.ev_h,Wy.ev_bn,Wy.ev_d,Int.ofNat_eq_natCast,zbM,zbf,decide_true,decide_false,Bool.and_self,Bool.true_and,Bool.and_true,cond_true,cond_false,Int.toNat_natCast,eqR,eqR',Bool.not_true,Bool.not_false,bnd,hi,hi'];rw [zV (by omega)]
   refine zXl m hm n (i+1) _ (by omega) (by omega) (by simpa using h3) ?_
   rw [zBE _ hi',h4,zzQ (by rw [zSh]; exact hi),zbaw hi]
  ·simp only [Wy.ev_i,Wy.ev_k,Wy.ev_h,Wy.ev_bn,Wy.ev_d,Int.ofNat_eq_natCast,zbM,zbf,decide_true,decide_false,Bool.and_self,Bool.true_and,Bool.and_true,cond_true,cond_false,Int.toNat_natCast,eqR,eqR',Bool.not_true,Bool.not_false,bnd,hi];have e:i=m:=by omega
   subst e;rw [List.take_of_length_le (by omega),List.take_of_length_le (by rw [zSh]; omega)] at h4
   rw [h4]
theorem z0r (m:Nat) (hm:m<=1000000):zur (m:Int)=(true,zF1 m):=by
 rw [zZN];have h1:decide ((0:Int)<=(m:Int))=true:=zbf m;have h2:decide ((m:Int)<=(m:Int))=true:=by simp
 have h3:decide ((m:Int)*Int.ofNat 8<=Int.ofNat z7)=true:=by
  have:m*8<=z7:=zBW (by omega) (by omega)
  simp only [qe,Int.ofNat_eq_natCast];omega
 have h4:decide ((m:Int)<=Int.ofNat z7)=true:=by
  have:m*1<=z7:=zBW (by omega) (by omega)
  simp only [qe,Int.ofNat_eq_natCast];omega
 rw [h1,h2,h3,h4];simp only [Bool.and_self,cond_true,Int.toNat_natCast,List.length_replicate,Int.ofNat_eq_natCast];rw [show (0:Int)=((0:Nat):Int) from rfl,zXl m hm _ 0 _ (by simp; omega) (by omega) (by simp) (by simp)]
 rfl
theorem z8C (k i:Nat) (al:yB) (s:yF) (hk:k<al.length) (hz:∀ t∈al,t.length<=1000000) (hs:s.length<=1000000):zoi k i al s=(true,decide (k≠i)&&sub (al.getD k default) s):=by
 rw [zSm];rw [z5W];by_cases h:k=i
 ·simp [h]
 ·simp only [Wy.ev_i,Wy.ev_k,Wy.ev_h,Wy.ev_bn,Wy.ev_d,Int.ofNat_eq_natCast,zbM,zbf,decide_true,decide_false,Bool.and_self,Bool.true_and,Bool.and_true,cond_true,cond_false,Int.toNat_natCast,eqR,eqR',Bool.not_true,Bool.not_false,bnd,h,hk,ne_eq,not_false_eq_true,z2p _ _ (hz _ (zR hk)) hs];rfl
theorem zTI (al:yB) (s:yF) (j:Nat) (hl:al.length<=1000000) (hz:∀ t∈al,t.length<=1000000) (hs:s.length<=1000000):∀ (n i:Nat),al.length<i+n->i<=al.length->
  ∃ r,zfJ n (zF1 al.length) j al s al.length i=(true,r)/\(((∃ k:Nat,i<=k/\k<al.length/\k≠j/\sub (al.getD k default) s=true)/\∃ k:Nat,r=.inl (k:Int))\/((∀ k:Nat,i<=k->k<al.length->k≠j->sub (al.getD k default) s=false)/\r=.inr ()))
 | 0,i,h,h2=>by omega
 | n+1,i,h,h2=>by
  rw [zCT];unfold zlW;by_cases hi:i<al.length
  ·simp only [Wy.ev_i,Wy.ev_k,Wy.ev_h,Wy.ev_bn,Wy.ev_d,Int.ofNat_eq_natCast,zbM,zbf,hi,zSh,decide_true,Bool.and_self,cond_true,Int.toNat_natCast,zbaw hi,z8C i j al s hi hz hs,bnd];obtain ⟨r,h1,h3⟩:=zTI al s j hl hz hs n (i+1) (by omega) (by omega)
   rw [zV (by omega),h1]
   by_cases hp:i≠j/\sub (al.getD i default) s=true
   ·refine ⟨.inl (i:Int),by simp only [hp.1,hp.2,ne_eq,not_false_eq_true,decide_true,Bool.and_self,cond_true],.inl ⟨⟨i,Nat.le_refl _,hi,hp.1,hp.2⟩,i,rfl⟩⟩
   ·have e:(decide (i≠j)&&sub (al.getD i default) s)=false:=by
     cases hb:(decide (i≠j)&&sub (al.getD i default) s) with
     | false=>rfl
     | true=>rw [qc,qe] at hb; exact absurd hb hp
    refine ⟨r,by simp only [e,cond_false], ?_⟩
    rcases h3 with ⟨⟨k,h4,h5,h6,h7⟩,h8⟩ | ⟨h4,rfl⟩
    ·exact .inl ⟨⟨k,by omega,h5,h6,h7⟩,h8⟩
    ·refine .inr ⟨λk h5 h6 h7=> ?_,rfl⟩
     by_cases hk:k=i
     ·subst hk;cases hb:sub (al.getD k default) s with
      | false=>rfl
      | true=>exact absurd ⟨h7,hb⟩ hp
     ·exact h4 k (by omega) h6 h7
  ·simp only [Wy.ev_i,Wy.ev_k,Wy.ev_h,Wy.ev_bn,Wy.ev_d,Int.ofNat_eq_natCast,zbM,hi,decide_false,cond_false];exact ⟨_,rfl,.inr ⟨λk h5 h6=>by omega,rfl⟩⟩
theorem z6l (al:yB) (hn:al.Nodup) (j:Nat) (hj:j<al.length) (hl:al.length<=1000000) (hz:∀ t∈al,t.length<=1000000):
  zfw (zF1 al.length) j al (al.getD j default)=(true, !zyj al (al.getD j default)):=by
 have hs:=hz _ (zR hj)
 have h:∃ k:Int,zff (zF1 al.length) j al (al.getD j default)=(true,k)/\(0<=k↔zyj al (al.getD j default)=false):=by
  rw [zFI];obtain ⟨r,h1,h2⟩:=zTI al (al.getD j default) j hl hz hs ((zF1 al.length).length+(j:Int).toNat +al.length+(al.getD j default).length+(Int.ofNat (zF1 al.length).length).toNat +Int.toNat 0+1) 0 (by simp; omega) (by omega)
  rw [show (0:Int)=((0:Nat):Int) from rfl] at *
  rw [show Int.ofNat (zF1 al.length).length=(al.length:Int) from by rw [zSh]; rfl] at *
  rw [h1];rcases h2 with ⟨⟨k,_,h3,h4,h5⟩,m,rfl⟩ | ⟨h3,rfl⟩
  ·refine ⟨(m:Int),rfl, ?_⟩
   have:zyj al (al.getD j default)=false:=by
    cases hb:zyj al (al.getD j default) with
    | false=>rfl
    | true=>
     have:=zNT.1 hb _ (zR h3) (zzP.1 h5);exact absurd (zbcd hn hj h3 this) h4
   exact ⟨λ_=>this,λ_=>by omega⟩
  ·refine ⟨-1,rfl, ?_⟩
   have:zyj al (al.getD j default)=true:=by
    rw [zNT];intro t ht hsub;obtain ⟨k,hk,e⟩:=List.getElem_of_mem ht;have e':al.getD k default=t:=by rw [List.getD_eq_getElem?_getD,List.getElem?_eq_getElem hk]; exact e
    by_cases hkj:k=j
    ·subst hkj; exact e'.symm
    ·have:=h3 k (Nat.zero_le _) hk hkj;rw [e',zzP.2 hsub] at this;cases this
   exact ⟨λh=>by omega,λh=>by rw [this] at h; cases h⟩
 obtain ⟨k,h1,h2⟩:=h;rw [zCK];rw [h1];simp only [bnd,cond_true];congr 1;cases hb:zyj al (al.getD j default) with
 | true=>
  have:¬ 0<=k:=λh=>by rw [h2.1 h] at hb; cases hb
  simp; omega
 | false=>simp [h2.2 hb]
theorem zLR (al:yB) (hn:al.Nodup) (hl:al.length<=1000000) (hz:∀ t∈al,t.length<=1000000):∀ (n i:Nat) (o:yB),al.length<i+n->i<=al.length->o.length<=i->
  zoa n al.length i o al=(true,o++(al.drop i).filter (zyj al))
 | 0,i,o,h,h2,h3=>by omega
 | n+1,i,o,h,h2,h3=>by
  rw [zTy];unfold zAC;by_cases hi:i<al.length
  ·have e1:(o.length+1)*24<=z7:=zBW (by omega) (by omega)
   simp only [Wy.ev_i,Wy.ev_k,Wy.ev_h,Wy.ev_bn,Wy.ev_d,Int.ofNat_eq_natCast,zbM,zbf,decide_true,decide_false,Bool.and_self,Bool.true_and,Bool.and_true,cond_true,cond_false,Int.toNat_natCast,eqR,eqR',Bool.not_true,Bool.not_false,bnd,hi,z0r _ hl,z6l al hn i hi hl hz,List.length_singleton,e1,Bool.not_not];rw [zV (by omega),zZ hi]
   generalize al.getD i default=s;cases hb:zyj al s with
   | true=>
    simp only [cond_true,List.filter_cons,hb,if_true];rw [zLR al hn hl hz n (i+1) _ (by omega) (by omega) (by simp; omega)]
    simp
   | false=>
    simp only [cond_false,List.filter_cons,hb,Bool.false_eq_true,if_false];rw [zLR al hn hl hz n (i+1) _ (by omega) (by omega) (by omega)]
  ·simp only [Wy.ev_i,Wy.ev_k,Wy.ev_h,Wy.ev_bn,Wy.ev_d,Int.ofNat_eq_natCast,zbM,zbf,decide_true,decide_false,Bool.and_self,Bool.true_and,Bool.and_true,cond_true,cond_false,Int.toNat_natCast,eqR,eqR',Bool.not_true,Bool.not_false,bnd,hi,zci hi]; simp
theorem zJl (l:yB) (hl:l.length<=1000000) (hz:∀ s∈l,s.length<=1000000):zgw l=(true,zim l):=by
 rw [zZu];have h1:=z5X l;rw [zKE l hl hz];simp only [bnd,cond_true]
 rw [show (0:Int)=((0:Nat):Int) from rfl,show Int.ofNat (fam l).length=((fam l).length:Int) from rfl,
  zLR (fam l) (zR7 zpL (zYN l)) (by omega) (z7x hz) _ 0 [] (by simp; omega) (by omega) (by simp)]
 rfl
theorem z4K (b:yB) (x:yF) (t10:yB) (t11 t12:Int) (hl:b.length<=1000000) (hz:∀ y∈b,x.length+y.length<=1000000):∀ (n i:Nat) (o:yB),b.length<i+n->i<=b.length->o.length<=1000000000000+i->
  zue n b x t10 t11 t12 b b.length i o=(true,(b,t10,t11,t12,o++(b.drop i).map λy=>nR (x++y)))
 | 0,i,o,h,h2,h3=>by omega
 | n+1,i,o,h,h2,h3=>by
  rw [zSb];unfold zAB;by_cases hi:i<b.length
  ·have e1:(o.length+1)*24<=z7:=by have:z7=70368744177664:=rfl; omega
   simp only [Wy.ev_i,Wy.ev_k,Wy.ev_h,Wy.ev_bn,Wy.ev_d,Int.ofNat_eq_natCast,zbM,zbf,decide_true,decide_false,Bool.and_self,Bool.true_and,Bool.and_true,cond_true,cond_false,Int.toNat_natCast,eqR,eqR',Bool.not_true,Bool.not_false,bnd,hi,z4Z _ _ (hz _ (zR hi)),List.length_singleton,e1];rw [zV (by omega),zZ hi,z4K b x t10 t11 t12 hl hz n (i+1) _ (by omega) (by omega) (by simp; omega)]
   simp
  ·simp only [Wy.ev_i,Wy.ev_k,Wy.ev_h,Wy.ev_bn,Wy.ev_d,Int.ofNat_eq_natCast,zbM,zbf,decide_true,decide_false,Bool.and_self,Bool.true_and,Bool.and_true,cond_true,cond_false,Int.toNat_natCast,eqR,eqR',Bool.not_true,Bool.not_false,bnd,hi,zci hi]; simp
theorem zYv (a b:yB) (ha:a.length<=1000000) (hb:b.length<=1000000) (hz:∀ x∈a,∀ y∈b,x.length+y.length<=1000000):∀ (n i:Nat) (o:yB),a.length<i+n->i<=a.length->o.length<=1000000*i->
  znZ n b a a.length i o=(true,o++(a.drop i).flatMap λx=>b.map λy=>nR (x++y))
 | 0,i,o,h,h2,h3=>by omega
 | n+1,i,o,h,h2,h3=>by
  rw [zRy];unfold zAG;by_cases hi:i<a.length
  ·simp only [Wy.ev_i,Wy.ev_k,Wy.ev_h,Wy.ev_bn,Wy.ev_d,Int.ofNat_eq_natCast,zbM,zbf,decide_true,decide_false,Bool.and_self,Bool.true_and,Bool.and_true,cond_true,cond_false,Int.toNat_natCast,eqR,eqR',Bool.not_true,Bool.not_false,bnd,hi];rw [show (0:Int)=((0:Nat):Int) from rfl,z4K b (a.getD i default) a a.length i hb (hz _ (zR hi)) _ 0 o (by simp; omega) (by omega) (by omega)]
   simp only [cond_true,List.drop_zero];rw [zV (by omega),zZ hi,zYv a b ha hb hz n (i+1) _ (by omega) (by omega) (by simp; omega)]
   simp [List.flatMap_cons]
  ·simp only [Wy.ev_i,Wy.ev_k,Wy.ev_h,Wy.ev_bn,Wy.ev_d,Int.ofNat_eq_natCast,zbM,zbf,decide_true,decide_false,Bool.and_self,Bool.true_and,Bool.and_true,cond_true,cond_false,Int.toNat_natCast,eqR,eqR',Bool.not_true,Bool.not_false,bnd,hi,zci hi]; simp
theorem zZt (a b:yB) (ha:a.length<=1000000) (hb:b.length<=1000000) (hm:a.length*b.length<=1000000) (hz:∀ x∈a,∀ y∈b,x.length+y.length<=1000000):zmc a b=(true,prod a b):=by
 rw [zZW];rw [show (0:Int)=((0:Nat):Int) from rfl,show Int.ofNat a.length=(a.length:Int) from rfl,zYv a b ha hb hz _ 0 [] (by simp; omega) (by omega) (by simp)]
 simp only [bnd,cond_true,List.drop_zero,List.nil_append]
 rw [zKE _ (by rw [flat_len']; exact hm) λs hs=>by
  obtain ⟨x,hx,hs⟩:=List.mem_flatMap.1 hs;obtain ⟨y,hy,rfl⟩:=List.mem_map.1 hs;have h1:=hz x hx y hy;have h2:=zQH (x++y);simp at h2; omega]
 rfl
theorem zHd (x:At):zDh x=(x.Kind==0||(x.Kind==2&&(z5d x.Ag).getD 0 true)):=by cases x; rw [zDh]
theorem zxt:∀ l:yD,zi1 l=l.all λf=>zDh f.At
 | []=>by rw [zi1]; rfl
 | ⟨x,e⟩::r=>by rw [zi1,zxt r,List.all_cons]
theorem zGs:∀ a:yC,zwy a=a.all λt=>zi1 t.Fs
 | []=>by rw [zwy]; rfl
 | ⟨c,fs⟩::r=>by rw [zwy,zGs r,List.all_cons]
theorem z3a {x:At} {b:yC} (h:x.Kind=2) (e:x.Ag=[b]):zDh x=zwy b:=by
 rw [zHd,h,e,z5d]; simp
theorem z9e (x:At):ze4 x=if x.Kind=2 then (zJA x.Ag).getD 0 default else [[x.Row]]:=by cases x; rw [ze4]
theorem zNP {x:At} {b:yC} (h:x.Kind=2) (e:x.Ag=[b]):ze4 x=zBM b:=by
 rw [z9e,if_pos h,e,zJA]; rfl
theorem zGN {x:At} (h:x.Kind≠2):ze4 x=[[x.Row]]:=by rw [z9e,if_neg h]
theorem zBG (f:Fc) (r:yD) (s:yB):zct (f::r) s=zct r (zim (prod s (ze4 f.At))):=by cases f; rw [zct]
theorem zDz (s:yB):zct [] s=s:=by rw [zct]
theorem zT6:∀ (l:yD) (s:yB),l.foldl (λs f=>zim (prod s (ze4 f.At))) s=zct l s
 | [],s=>by rw [zDz]; rfl
 | f::r,s=>by rw [zBG,List.foldl_cons,zT6 r]
theorem ztk (t:Term) (r:yC):zeN (t::r)=zct t.Fs [[]]++zeN r:=by cases t; rw [zeN]
theorem zz1:zeN []=[]:=by rw [zeN]
theorem z0F:∀ (a:yC) (s:yB),a.foldl (λs t=>s++zct t.Fs [[]]) s=s++zeN a
 | [],s=>by rw [zz1]; simp
 | t::r,s=>by rw [ztk,List.foldl_cons,z0F r,List.append_assoc]
theorem z5p {x:At} (h:zxK x=true) (hk:x.Kind=2):∃ b,x.Ag=[b]/\zdM b=true/\b≠[]:=by
 have:=zbe4.1 h;cases this with
 | del a ha ha0 h1 h2=>exact ⟨a,rfl,ha,ha0⟩
 | _=>simp at hk
theorem zbgc {x y:Nat} (hx:1<=x) (hy:1<=y):2 ^ x+2 ^ y<=2 ^ (x+y):=by
 rw [Nat.pow_add];have h1:2<=2 ^ x:=Nat.le_trans (by omega:2<=2 ^ 1) (Nat.pow_le_pow_right (by omega) hx)
 have h2:2<=2 ^ y:=Nat.le_trans (by omega:2<=2 ^ 1) (Nat.pow_le_pow_right (by omega) hy)
 generalize 2 ^ x=X at *;generalize 2 ^ y=Y at *;obtain ⟨u,rfl⟩:∃ u,X=u+2:=⟨X - 2,by omega⟩
 obtain ⟨v,rfl⟩:∃ v,Y=v+2:=⟨Y - 2,by omega⟩
 have:(u+2)*(v+2)=u*v+2*u+2*v+4:=by rw [Nat.add_mul,Nat.mul_add,Nat.mul_add]; omega
 rw [this]; omega
def cN:yC->Nat
 | []=>0
 | t::r=>(if t.Fs=[] then 1 else 0)+cN r
theorem zbbR:∀ {a:yC},(∀ t∈a,t.Fs≠[])->cN a=0
 | [],_=>rfl
 | t::r,h=>by unfold cN; rw [if_neg (h t (by simp)),zbbR λu hu=>h u (by simp [hu])]
theorem zbdc:∀ {a:yC},(a.Pairwise λx y=>x.Fs≠y.Fs)->cN a<=1
 | [],_=>by unfold cN; omega
 | t::r,h=>by
  have h:=qi.1 h;unfold cN;by_cases e:t.Fs=[]
  ·rw [if_pos e,zbbR λu hu e'=>h.1 u hu (by rw [e,e'])]; omega
  ·rw [if_neg e]; have:=zbdc h.2; omega
theorem z5w:∀ (l:yD),(∀ f∈l,(ze4 f.At).length<=2 ^ (zfC f.At / 2)/\∀ s∈ze4 f.At,s.length<=1+zfC f.At)->∀ (s:yB) (p q:Nat),s.length<=2 ^ p->(∀ x∈s,x.length<=q)->
  (zct l s).length<=2 ^ (p+zW l / 2)/\∀ x∈zct l s,x.length<=q+l.length+zW l
 | [],h,s,p,q,hp,hq=>by
  rw [zDz];exact ⟨Nat.le_trans hp (Nat.pow_le_pow_right (by omega) (by omega)),λx hx=>by have:=hq x hx; simp; omega⟩
 | f::r,h,s,p,q,hp,hq=>by
  rw [zBG,zne];obtain ⟨a1,a2⟩:=h f (by simp)
  obtain ⟨b1,b2⟩:=z5w r (λg hg=>h g (by simp [hg])) (zim (prod s (ze4 f.At))) (p+zfC f.At / 2) (q+(1+zfC f.At))
   (Nat.le_trans (zMa _) (Nat.le_trans (z2k _ _) (by rw [Nat.pow_add]; exact Nat.mul_le_mul hp a1)))
   (zD2 (zSL hq a2))
  refine ⟨Nat.le_trans b1 (Nat.pow_le_pow_right (by omega) (by omega)),λx hx=> ?_⟩
  have:=b2 x hx;simp only [qf]; omega
theorem z3b:∀ (a:yC),(∀ t∈a,(zct t.Fs [[]]).length<=2 ^ (zW t.Fs / 2))->2*(zeN a).length<=2 ^ ((zb4 a+cN a) / 2)
 | [],h=>by rw [zz1]; simp
 | t::r,h=>by
  rw [ztk,zxE,qg];unfold cN;have h1:=h t (by simp)
  have hc:1<=t.Fs.length+(if t.Fs=[] then 1 else 0):=by
   by_cases e:t.Fs=[]
   ·rw [if_pos e]; omega
   ·rw [if_neg e]; have:=List.length_pos_iff.2 e; omega
  generalize (if t.Fs=[] then 1 else 0)=c at hc ⊢
  have e1:2*(zct t.Fs [[]]).length<=2 ^ ((1+t.Fs.length+zW t.Fs+c) / 2):=by
   have:2 ^ (zW t.Fs / 2+1)<=2 ^ ((1+t.Fs.length+zW t.Fs+c) / 2):=Nat.pow_le_pow_right (by omega) (by omega)
   rw [Nat.pow_succ] at this;omega
  cases r with
  | nil=>
   rw [zz1];have:2 ^ ((1+t.Fs.length+zW t.Fs+c) / 2)<=2 ^ ((1+t.Fs.length+zW t.Fs+zb4 []+(c+cN [])) / 2):=Nat.pow_le_pow_right (by omega) (by omega)
   simp only [List.length_nil,Nat.add_zero]; omega
  | cons u r=>
   have e2:=z3b (u::r) λt ht=>h t (by simp [qd.1 ht])
   have hr:2<=zb4 (u::r)+cN (u::r):=by
    rw [zxE];unfold cN;by_cases e:u.Fs=[]
    ·rw [if_pos e]; omega
    ·rw [if_neg e]; have:=List.length_pos_iff.2 e; omega
   generalize (zeN (u::r)).length=W at *;generalize zb4 (u::r)=T at *;generalize cN (u::r)=C at *;have e3:=zbgc (x:=(1+t.Fs.length+zW t.Fs+c) / 2) (y:=(T+C) / 2) (by omega) (by omega)
   have e4:2 ^ ((1+t.Fs.length+zW t.Fs+c) / 2+(T+C) / 2)<=2 ^ ((1+t.Fs.length+zW t.Fs+T+(c+C)) / 2):=Nat.pow_le_pow_right (by omega) (by omega)
   omega
theorem z02:∀ (a:yC),(∀ t∈a,∀ s∈zct t.Fs [[]],s.length<=t.Fs.length+zW t.Fs)->∀ s∈zeN a,s.length<=zb4 a
 | [],h,s,hs=>by rw [zz1] at hs; cases hs
 | t::r,h,s,hs=>by
  rw [ztk] at hs;rw [zxE];rcases List.mem_append.1 hs with hs | hs
  ·have:=h t (by simp) s hs; omega
  ·have:=z02 r (λt ht=>h t (by simp [ht])) s hs; omega
structure WSize (a:yC):Prop where
 at_:∀ t∈a,∀ f∈t.Fs,(ze4 f.At).length<=2 ^ (zfC f.At / 2)/\∀ s∈ze4 f.At,s.length<=1+zfC f.At
 fac:∀ t∈a,(zct t.Fs [[]]).length<=2 ^ (zW t.Fs / 2)/\∀ s∈zct t.Fs [[]],s.length<=t.Fs.length+zW t.Fs
 all:2*(zeN a).length<=2 ^ ((zb4 a+1) / 2)
 len:∀ s∈zeN a,s.length<=zb4 a
theorem z3e:∀ (d:Nat) (a:yC),zF d a->QA a->WSize a
 | 0,a,h,_=>h.elim
 | d+1,a,h,q=>by
  have hat:∀ t∈a,∀ f∈t.Fs,(ze4 f.At).length<=2 ^ (zfC f.At / 2)/\∀ s∈ze4 f.At,s.length<=1+zfC f.At:=λt ht f hf=>by
   have hv:zxK f.At=true:=((q.2 t ht).2.2 f hf).2;by_cases hk:f.At.Kind=2
   ·obtain ⟨b,eb,vb,_⟩:=z5p hv hk;have ih:=z3e d b (((h.2 t ht).2 f hf).2.1 b (by rw [eb]; simp)) (zvX vb)
    rw [zNP hk eb,zJK,eb,zDu,z0G];have e1:=zMa (zeN b);have e2:=ih.all;simp only [List.length_singleton];have e3:2 ^ ((zb4 b+1) / 2)<=2 ^ ((f.At.Items.length+1+f.At.Bd.Text.size+(zb4 b+0)+zl4 f.At.Items) / 2):=Nat.pow_le_pow_right (by omega) (by omega)
    refine ⟨?_,λs hs=> ?_⟩
    ·show (zim (zeN b)).length<=_;omega
    ·have:=zD2 ih.len s hs;omega
   ·rw [zGN hk];refine ⟨?_,λs hs=> ?_⟩
    ·have:2 ^ 0<=2 ^ (zfC f.At / 2):=Nat.pow_le_pow_right (by omega) (by omega)
     simpa using this
    ·rw [qh.1 hs]; simp
  have hfac:∀ t∈a,(zct t.Fs [[]]).length<=2 ^ (zW t.Fs / 2)/\∀ s∈zct t.Fs [[]],s.length<=t.Fs.length+zW t.Fs:=λt ht=>by
   have:=z5w t.Fs (hat t ht) [[]] 0 0 (by simp) (λx hx=>by rw [qh.1 hx]; simp)
   simpa using this
  refine ⟨hat,hfac, ?_,z02 a λt ht=>(hfac t ht).2⟩
  have e1:=z3b a λt ht=>(hfac t ht).1
  have e2:2 ^ ((zb4 a+cN a) / 2)<=2 ^ ((zb4 a+1) / 2):=Nat.pow_le_pow_right (by omega) (by have:=zbdc q.pa.canon.dst; omega)
  omega
theorem zbb8 {k:Nat} (h:k<=20):2 ^ k<=1048576:=Nat.le_trans (Nat.pow_le_pow_right (by omega) h) (by decide)
theorem zYS {k:Nat} (h:k<=19):2 ^ k<=524288:=Nat.le_trans (Nat.pow_le_pow_right (by omega) h) (by decide)
theorem zAT:∀ (l m:yD),zW (l++m)=zW l+zW m
 | [],m=>by simp [zW]
 | f::r,m=>by rw [List.cons_append,zne,zne,zAT r]; omega
theorem zNw {l:yD} {i:Nat} (h:i<l.length):zW (l.take (i+1))=zW (l.take i)+zfC (l.getD i default).At:=by
 rw [zzQ h,zAT,zne]; simp [zW]
theorem zHB (l:yD) (i:Nat):zW (l.take i)<=zW l:=by
 have:=zAT (l.take i) (l.drop i);rw [List.take_append_drop] at this; omega
theorem zbhJ (g:Term->Bool×Bool) (s:yC):zdw g s=IG (λ(_:Unit) x=>g x) (s.length+(Int.ofNat s.length).toNat +Int.toNat (0:Int)+(1000:Nat)) () s:=rfl
theorem zbhZ (g:Fc->Bool×Bool) (s:yD):zcy g s=IG (λ(_:Unit) x=>g x) (s.length+(Int.ofNat s.length).toNat +Int.toNat (0:Int)+(1000:Nat)) () s:=by
 unfold zcy ziG zh8
 have hw:zda g=z38 (λ(_:Unit) x=>g x):=by
  funext x y
  unfold zda zh3 z38 z5k;rw [Fc.eta2]
 rw [hw]; rfl
theorem zbgN:∀ (d n:Nat) (a:yC),7*d<=n->zF d a->QA a->zeT n a=(true,zwy a)
 | 0,n,a,hn,h,_=>h.elim
 | d+1,n,a,hn,h,q=>by
  obtain ⟨k,rfl⟩:∃ k,n=k+7:=⟨n - 7,by omega⟩
  have h1:∀ t∈a,∀ f∈t.Fs,zej (k+1) f=(true, !zDh f.At):=λt ht f hf=>by
   rw [zCM];unfold zir zs5;have hv:zxK f.At=true:=((q.2 t ht).2.2 f hf).2;simp only [Wy.fin_i,Wy.fin_k,Wy.fin_bn];by_cases h0:f.At.Kind=0
   ·rw [zHd,h0]; rfl
   ·have e0:(f.At.Kind != 0)=true:=by rw [bne_iff_ne]; exact h0
    rw [e0,cond_true];by_cases h2:f.At.Kind=2
    ·obtain ⟨b,eb,vb,_⟩:=z5p hv h2;have ih:=zbgN d k b (by omega) (((h.2 t ht).2 f hf).2.1 b (by rw [eb]; simp)) (zvX vb)
     rw [z3a h2 eb,h2,eb];show (bif (zeT k b).1 then (true, !(zeT k b).2) else (false,default))=_
     rw [ih]; rfl
    ·have e2:(f.At.Kind != 2)=true:=by rw [bne_iff_ne]; exact h2
     rw [e2,cond_true,zHd];have e3:(f.At.Kind==0)=false:=by rw [beq_eq_false_iff_ne]; exact h0
     have e4:(f.At.Kind==2)=false:=by rw [beq_eq_false_iff_ne]; exact h2
     rw [e3,e4]; rfl
  have h2:∀ t∈a,ze8 (k+4) t=(true, !zi1 t.Fs):=λt ht=>by
   rw [zGe];unfold zkd zvJ
   have hc:zdc (k+3) t.Fs=(true,t.Fs.any λf=> !zDh f.At):=by
    rw [zoU];unfold zdd zhf;rw [zqU,zbhZ];exact zpa (zS5 _ _ _ _ _ (by have:=(h.2 t ht).1; omega) (λf hf=>h1 t ht f hf) (by omega))
   rw [Wy.fin_bn,hc,zxt];simp [List.all_eq_not_any_not,Wy.fin_k]
  rw [zKp];unfold zmi zzp
  have hc:zc3 (k+6) a=(true,a.any λt=> !zi1 t.Fs):=by
   rw [zol];unfold zc8 zgY;rw [zqf,zbhJ];exact zpa (zS5 _ _ _ _ _ (by have:=h.1; omega) (λt ht=>h2 t ht) (by omega))
  rw [Wy.fin_bn,hc,zGs];simp [List.all_eq_not_any_not,Wy.fin_k]
theorem zbhO (g:yC->Bool×yB) (t10:yC) (t11 t12:Int) (all:yB) (fs:yD) (hl:fs.length<=40) (ht:zW fs<=39)
  (hg:∀ f∈fs,f.At.Kind=2->0<f.At.Ag.length/\g (f.At.Ag.getD 0 default)=(true,ze4 f.At))
  (hs:∀ f∈fs,(ze4 f.At).length<=2 ^ (zfC f.At / 2)/\∀ s∈ze4 f.At,s.length<=1+zfC f.At) (n:Nat) (hn:fs.length<n):
  zoO g n t10 t11 t12 fs fs.length 0 all [[]]=(true,(t10,t11,t12,all,zct fs [[]])):=by
 have h:=zpe (W:=zou g) (z:=default) fs (λi _=>((),(),t10,t11,t12,fs,(fs.length:Int),(i:Int),())) (λ_ s=>(all,s,())) (λs f=>zim (prod s (ze4 f.At))) (λs=>(t10,t11,t12,all,s))
  (λi s=>s.length<=2 ^ (zW (fs.take i) / 2)/\∀ x∈s,x.length<=i+zW (fs.take i))
  (λi s hi hI=>by
   have hm:=zR hi;have hf:=hs _ hm;have tk:=zNw hi;have tl:=zHB fs (i+1);have pl:=z2k s (ze4 (fs.getD i default).At)
   have hmul:s.length*(ze4 (fs.getD i default).At).length<=2 ^ (zW (fs.take (i+1)) / 2):=by
    refine Nat.le_trans (Nat.mul_le_mul hI.1 hf.1) ?_;rw [<- Nat.pow_add];exact Nat.pow_le_pow_right (by omega) (by omega)
   have hbig:=zYS (show zW (fs.take (i+1)) / 2<=19 by omega)
   have hs1:=zYS (show zW (fs.take i) / 2<=19 by omega)
   have hs2:=zYS (show zfC (fs.getD i default).At / 2<=19 by omega)
   have hlen:∀ x∈s,∀ y∈ze4 (fs.getD i default).At,x.length+y.length<=1000000:=λx hx y hy=>by
    have:=hI.2 x hx;have:=hf.2 y hy;omega
   have sm:=zSL hI.2 hf.2;refine ⟨⟨Nat.le_trans (zMa _) (Nat.le_trans pl hmul),λx hx=> ?_⟩,λH K D=> ?_⟩
   ·have:=zD2 sm x hx;omega
   ·show (zg1 g t10 t11 t12 fs fs.length i all s).ev H K D=_;unfold zg1
    have hP:zmc s (ze4 (fs.getD i default).At)=(true,prod s (ze4 (fs.getD i default).At)):=by
     exact zZt _ _ (by omega) (by omega) (by omega) hlen
    have hM:zgw (prod s (ze4 (fs.getD i default).At))=(true,zim (prod s (ze4 (fs.getD i default).At))):=by
     exact zJl _ (by omega) λx hx=>by have:=sm x hx; omega
    by_cases hk:(fs.getD i default).At.Kind=2
    ·obtain ⟨g1,g2⟩:=hg _ hm hk;have ek:((fs.getD i default).At.Kind==2)=true:=by rw [hk]; rfl
     simp only [Wy.ev_i,Wy.ev_k,Wy.ev_h,Wy.ev_bn,Wy.ev_d,tT,hi,ek];rw [show Int.toNat (0:Int)=0 from rfl]
     have ea':decide ((0:Int)<((fs.getD i default).At.Ag.length:Int))=true:=by rw [qe]; omega
     simp only [ea',g2,hP,hM,cond_true,Int.le_refl,decide_true,Bool.and_self];rw [zV (by omega)]
    ·have ek:((fs.getD i default).At.Kind==2)=false:=by rw [beq_eq_false_iff_ne]; exact hk
     rw [zGN hk] at hP hM;simp only [Wy.ev_i,Wy.ev_k,Wy.ev_h,Wy.ev_bn,Wy.ev_d,tT,hi,ek,hP,hM];rw [zV (by omega),zGN hk])
  (λs hI H K D=>by
   show (zg1 g t10 t11 t12 fs fs.length fs.length all s).ev H K D=_;unfold zg1;simp only [Wy.ev_i,Wy.ev_k,tT,Nat.lt_irrefl]) n [[]] hn (by simp [zW])
 have h:zoO g n t10 t11 t12 fs fs.length 0 all [[]]=_:=h;rw [h,zT6]
theorem zbfs:∀ (d n:Nat) (a:yC),d<=n->zF d a->QA a->zb4 a<=40->zcZ n a=(true,zBM a)
 | 0,n,a,hn,h,_,_=>h.elim
 | d+1,0,a,hn,h,q,ht=>by omega
 | d+1,n+1,a,hn,h,q,ht=>by
  have hreach:z7=70368744177664:=rfl;have S:=z3e (d+1) a h q;have hbig:=zbb8 (show (zb4 a+1) / 2<=20 by omega)
  have hall:=S.all;have hA:=h.1;rw [zJt];unfold zme zyZ
  have h3:=zpe (W:=zoZ (zcZ n)) (z:=default) a (λi _=>((),a,(a.length:Int),(i:Int),())) (λ_ s=>(s,())) (λs t=>s++zct t.Fs [[]]) id
   (λi s=>s.length+(zeN (a.drop i)).length<=524288)
   (λi s hi hI=>by
    have hm:=zR hi;rw [zZ hi,ztk,qg] at hI;refine ⟨by rw [qg]; omega,λH K D=> ?_⟩
    show (zg7 (zcZ n) a a.length i s).ev H K D=_;unfold zg7;have hff:=(h.2 _ hm).1
    have htf:(a.getD i default).Fs.length<=40/\zW (a.getD i default).Fs<=39:=by
     have:∀ {l:yC} {t:Term},t∈l->1+t.Fs.length+zW t.Fs<=zb4 l:=by
      intro l;induction l with
      | nil=>intro t h; cases h
      | cons x r ih=>
       intro t h;rw [zxE];rcases qd.1 h with rfl | h
       ·omega
       ·have:=ih h; omega
     have:=this hm;omega
    have e7:=zbhO (zcZ n) a (a.length:Int) (i:Int) s (a.getD i default).Fs htf.1 htf.2 (λf hf hk=>by
     obtain ⟨b,eb,vb,_⟩:=z5p ((q.2 _ hm).2.2 f hf).2 hk
     have hb:zb4 b<=40:=by
      have h1:=zGf hf;rw [zJK,eb,zDu] at h1;omega
     refine ⟨by rw [eb]; simp, ?_⟩
     rw [eb,zNP hk eb];exact zbfs d n b (by omega) (((h.2 _ hm).2 f hf).2.1 b (by rw [eb]; simp)) (zvX vb) hb) (S.at_ _ hm)
    have gb:decide ((s.length+(zct (a.getD i default).Fs [[]]).length)*24<=z7)=true:=by rw [qe]; omega
    simp only [Wy.ev_i,Wy.ev_k,Wy.ev_h,Wy.ev_bn,Wy.ev_d,tT,hi,e7 (a.length+a.length+i+(a.getD i default).Fs.length+(a.getD i default).Fs.length+Int.toNat 0+s.length+1+1000) (by omega),gb]
    rw [zV (by omega)])
   (λs hI H K D=>by
    show (zg7 (zcZ n) a a.length a.length s).ev H K D=_;unfold zg7;simp only [Wy.ev_i,Wy.ev_k,tT,Nat.lt_irrefl]; rfl) (a.length+(Int.ofNat a.length).toNat +Int.toNat (0:Int)+(0:Nat)+(1000:Nat)) [] (by omega) (by rw [List.drop_zero]; simp only [List.length_nil]; omega)
  have h3:zyd (zcZ n) (a.length+(Int.ofNat a.length).toNat +Int.toNat (0:Int)+(0:Nat)+(1000:Nat)) a (Int.ofNat a.length) 0 []=_:=h3;rw [Wy.fin_bn,h3,z0F,List.nil_append]
  have hM:zgw (zeN a)=(true,zim (zeN a)):=by
   exact zJl _ (by omega) λx hx=>by have:=S.len x hx; omega
  show (Wy.bn (zgw (zeN a)) λr22=>.k r22:Wy0 (yB)).fin default=_
  rw [hM]; rfl
def zRM (a:yC):yB×Int:=
 if zdM a=true then if zwy a=true then if 512<(zBM a).length then ([],6) else (zBM a,0) else ([],13) else ([],1)
theorem z9z {a:yC} (oa:okA a) (ht:zb4 a<=40):zk4 a=(true,zRM a):=by
 unfold zk4 zBc zRM;rw [Wy.fin_bn,oa.valid];cases hv:zdM a with
 | false=>rfl
 | true=>
  rw [if_pos rfl,cond_true];have h1:zv6 a=(true,zwy a):=zbgN 12 1000 a (by omega) oa.1.1 (zvX hv)
  have h2:zwv a=(true,zBM a):=zbfs 12 1000 a (by omega) oa.1.1 (zvX hv) ht
  simp only [Wy.fin_i,Wy.fin_k,Wy.fin_bn,h1,h2,Bool.not_true,cond_false,cond_true];cases hx:zwy a with
  | false=>rfl
  | true=>
   rw [if_pos rfl];by_cases hl:512<(zBM a).length
   ·have:decide (Int.ofNat (zBM a).length>512)=true:=by rw [qe,Int.ofNat_eq_natCast]; omega
    rw [if_pos hl,this]; rfl
   ·have:decide (Int.ofNat (zBM a).length>512)=false:=by rw [decide_eq_false_iff_not,Int.ofNat_eq_natCast]; omega
    rw [if_neg hl,this]; rfl
theorem zbbN {σ τ ρ:Type} {f:σ->τ->σ⊕ρ} {x:τ} {r:List τ} {s u:σ} (h:f s x=.inl u):zBz f (x::r) s=zBz f r u:=by
 rw [zBz,h]
theorem zbbS {σ τ ρ:Type} {f:σ->τ->σ⊕ρ} {x:τ} {r:List τ} {s:σ} {v:ρ} (h:f s x=.inr v):zBz f (x::r) s=.inr v:=by
 rw [zBz,h]
theorem zbeN {α:Type} (c:α->α->Int) (x:α) (l:List α):(zmU c x l).length<=l.length+1:=by
 induction l with
 | nil=>simp [zmU]
 | cons y r ih=>
  unfold zmU;split
  ·simp
  ·split
   ·simp
   ·simp only [qf]; omega
theorem z1K (l:yB) (s:yF):(znD l s).length<=l.length+1:=by
 unfold znD;split
 ·omega
 ·exact Nat.le_trans (zbeN _ _ _) (Nat.succ_le_succ (List.length_filter_le _ _))
theorem z2I {l:yB} {s x:yF} (h:x∈znD l s):x∈l\/x=s:=by
 unfold znD at h;split at h
 ·exact .inl h
 ·rcases (zK6 zpL s _ x).1 h with h | h
  ·exact .inr h
  ·exact .inl (List.mem_filter.1 h).1
theorem zXV:∀ (L o:yB),(L.foldl znD o).length<=o.length+L.length
 | [],o=>by simp
 | s::r,o=>by
  rw [List.foldl_cons,qf];have:=zXV r (znD o s);have:=z1K o s;omega
theorem zVH:∀ {L o:yB} {x:yF},x∈L.foldl znD o->x∈o\/x∈L
 | [],o,x,h=>.inl h
 | s::r,o,x,h=>by
  rw [List.foldl_cons] at h;rcases zVH h with h | h
  ·rcases z2I h with h | h
   ·exact .inl h
   ·exact .inr (by simp [h])
  ·exact .inr (by simp [h])
theorem zN2 {τ:Type} (f:τ->yF):∀ (l:List τ) (o:yB),l.foldl (λo y=>znD o (f y)) o=(l.map f).foldl znD o
 | [],o=>rfl
 | y::r,o=>by rw [List.foldl_cons,List.map_cons,List.foldl_cons,zN2 f r]
theorem z4Q (own:yB):∀ (l o:yB),l.foldl (λo x=>own.foldl (λo y=>znD o (nR (x++y))) o) o=(l.flatMap λx=>own.map λy=>nR (x++y)).foldl znD o
 | [],o=>rfl
 | x::r,o=>by rw [List.foldl_cons,List.flatMap_cons,List.foldl_append, <- zN2,z4Q own r]
theorem zbfu:∀ (l:yD) {s:yB},(∀ x∈s,zhU cR x)->∀ x∈zct l s,zhU cR x
 | [],s,h=>by rw [zDz]; exact h
 | f::r,s,h=>by
  rw [zBG];exact zbfu r λx hx=>zFK (ztB.1 hx).1
theorem zbbG:∀ x∈([[]]:yB),zhU cR x:=λx hx=>by rw [qh.1 hx]; exact List.Pairwise.nil
theorem z3N:∀ (a:yC),∀ x∈zeN a,zhU cR x
 | [],x,h=>by rw [zz1] at h; cases h
 | t::r,x,h=>by
  rw [ztk] at h;rcases List.mem_append.1 h with h | h
  ·exact zbfu _ zbbG x h
  ·exact z3N r x h
section
variable (g:yC->Bool×(yB×Bool)) (a:yC) (out:yB) (i:Int)
theorem zbht (sets:yB) (k:Int) (own next:yB) (j:Nat) (hj:j<sets.length) (hc:next.length+own.length<=1000000) (hz:∀ x∈next,x.length<=1000)
  (hx:zhU cR (sets.getD j default)) (hy:∀ y∈own,(sets.getD j default).length+y.length<=1000) (n:Nat) (hn:own.length<n):
  zGG g n a out i sets k own next j 0=(true,(a,out,i,sets,k,own,own.foldl (λo y=>znD o (nR (sets.getD j default++y))) next,(j:Int))):=by
 have h:=zpe (W:=zyS g) (z:=default) own (λm o=>(a,out,i,sets,k,own,o,(j:Int),(m:Int),())) (λ_ _=>()) (λo y=>znD o (nR (sets.getD j default++y))) (λo=>(a,out,i,sets,k,own,o,(j:Int)))
  (λm o=>o.length<=next.length+m/\∀ x∈o,x.length<=1000)
  (λm o hm hI=>by
   have hb:=hy _ (zR hm)
   have hnr:(nR (sets.getD j default++own.getD m default)).length<=1000:=by
    have:=zQH (sets.getD j default++own.getD m default);rw [qg] at this; omega
   refine ⟨⟨by have:=z1K o (nR (sets.getD j default++own.getD m default)); omega,λx hx=> ?_⟩,λH K D=> ?_⟩
   ·rcases z2I hx with hx | rfl
    ·exact hI.2 x hx
    ·exact hnr
   ·show (zmJ g a out i sets k own o j m).ev H K D=_;unfold zmJ
    have e1:zzW (sets.getD j default) (own.getD m default)=(true,nR (sets.getD j default++own.getD m default)):=by
     rw [zbeU _ _ (by omega) (by omega),zbgo hx]
    have e2:=z3T o (nR (sets.getD j default++own.getD m default)) (by omega) (by omega) λx hx=>by have:=hI.2 x hx; omega
    simp only [Wy.ev_i,Wy.ev_k,Wy.ev_h,Wy.ev_bn,Wy.ev_d,tT,hm,hj,e1,e2];rw [zV (by omega)])
  (λo hI H K D=>by
   show (zmJ g a out i sets k own o j own.length).ev H K D=_;unfold zmJ;simp only [Wy.ev_i,Wy.ev_k,tT,Nat.lt_irrefl]) n next hn ⟨by omega,hz⟩
 exact h
theorem zbgv (sets:yB) (k:Int) (own:yB) (hs:sets.length<=600000) (ho:own.length<=600000) (hc:sets.length*own.length<=600000)
  (hx:∀ x∈sets,zhU cR x) (hy:∀ x∈sets,∀ y∈own,x.length+y.length<=1000) (n:Nat) (hn:sets.length<n):
  zsP g n a out i sets k own [] 0=(true,(a,out,i,k,zim (prod sets own))):=by
 have h:=zpe (W:=zy9 g) (z:=default) sets (λj o=>(a,out,i,sets,k,own,o,(j:Int),())) (λ_ _=>()) (λo x=>own.foldl (λo y=>znD o (nR (x++y))) o) (λo=>(a,out,i,k,o))
  (λj o=>o.length<=j*own.length/\∀ x∈o,x.length<=1000)
  (λj o hj hI=>by
   have hm:=zR hj;have h1:(j+1)*own.length<=600000:=Nat.le_trans (Nat.mul_le_mul hj (Nat.le_refl _)) hc;rw [Nat.succ_mul] at h1;refine ⟨⟨?_,λx hx'=> ?_⟩,λH K D=> ?_⟩
   ·rw [zN2 (λy=>nR (sets.getD j default++y))]
    have:=zXV (own.map λy=>nR (sets.getD j default++y)) o
    rw [List.length_map] at this;rw [Nat.succ_mul]; omega
   ·rw [zN2 (λy=>nR (sets.getD j default++y))] at hx'
    rcases zVH hx' with hx' | hx'
    ·exact hI.2 x hx'
    ·obtain ⟨y,hy',rfl⟩:=List.mem_map.1 hx';have:=zQH (sets.getD j default++y);have:=hy _ hm y hy';rw [qg] at *; omega
   ·show (zmM g a out i sets k own o j).ev H K D=_;unfold zmM;have e:=zbht g a out i sets k own o j hj (by omega) hI.2 (hx _ hm) (hy _ hm) (a.length+out.length+i.toNat +sets.length+k.toNat +own.length+o.length+j+Int.toNat (0:Int)+1000) (by omega)
    simp only [Wy.ev_i,Wy.ev_k,Wy.ev_h,Wy.ev_bn,Wy.ev_d,tT,hj,e];rw [zV (by omega)])
  (λo hI H K D=>by
   show (zmM g a out i sets k own o sets.length).ev H K D=_;unfold zmM;simp only [Wy.ev_i,Wy.ev_k,tT,Nat.lt_irrefl]) n [] hn ⟨by simp,λx hx=>by cases hx⟩
 have h:zsP g n a out i sets k own [] 0=_:=h
 rw [h,z4Q,z8V (λs hs=>by
  obtain ⟨x,hx,hs⟩:=List.mem_flatMap.1 hs;obtain ⟨y,hy,rfl⟩:=List.mem_map.1 hs;exact zbgU _),zbcx]
theorem zbhB (sets:yB) (hc:out.length+sets.length<=1000000) (hz:∀ x∈out,x.length<=1000) (hs:∀ x∈sets,x.length<=1000) (n:Nat) (hn:sets.length<n):
  zHF g n a out i sets 0=(true,(a,sets.foldl znD out,i)):=by
 have h:=zpe (W:=zzr g) (z:=default) sets (λj o=>(a,o,i,sets,(j:Int),())) (λ_ _=>()) znD (λo=>(a,o,i))
  (λj o=>o.length<=out.length+j/\∀ x∈o,x.length<=1000)
  (λj o hj hI=>by
   have hm:=hs _ (zR hj);refine ⟨⟨by have:=z1K o (sets.getD j default); omega,λx hx=> ?_⟩,λH K D=> ?_⟩
   ·rcases z2I hx with hx | rfl
    ·exact hI.2 x hx
    ·exact hm
   ·show (zmw g a o i sets j).ev H K D=_;unfold zmw;have e2:=z3T o (sets.getD j default) (by omega) (by omega) λx hx=>by have:=hI.2 x hx; omega
    simp only [Wy.ev_i,Wy.ev_k,Wy.ev_h,Wy.ev_bn,Wy.ev_d,tT,hj,e2];rw [zV (by omega)])
  (λo hI H K D=>by
   show (zmw g a o i sets sets.length).ev H K D=_;unfold zmw;simp only [Wy.ev_i,Wy.ev_k,tT,Nat.lt_irrefl]) n out hn ⟨by omega,hz⟩
 exact h
end
def z6P (s:yB) (f:Fc):yB⊕(Bool⊕(yC×yB×Int×yB)):=
 if zDh f.At=true then .inl (zim (prod s (ze4 f.At))) else .inr (.inl false)
theorem z7D:∀ (l:yD) (s:yB),zBz z6P l s=if zi1 l=true then .inl (zct l s) else .inr (.inl false)
 | [],s=>by rw [zxt,zDz]; rfl
 | f::r,s=>by
  rw [zxt,List.all_cons,zBG, <- zxt];cases h:zDh f.At with
  | true=>rw [zbbN (u:=zim (prod s (ze4 f.At))) (by unfold z6P; rw [if_pos h]),Bool.true_and]; exact z7D r _
  | false=>rw [zbbS (v:=.inl false) (by unfold z6P; rw [if_neg (by rw [h]; simp)]),Bool.false_and,if_neg (by simp)]
def z6g (o:yB) (t:Term):yB⊕(Bool⊕yB):=
 if zi1 t.Fs=true then .inl ((zct t.Fs [[]]).foldl znD o) else .inr (.inl false)
theorem z7h:∀ (a:yC) (o:yB),zBz z6g a o=if zwy a=true then .inl ((zeN a).foldl znD o) else .inr (.inl false)
 | [],s=>by rw [zGs,zz1]; rfl
 | t::r,s=>by
  rw [zGs,List.all_cons,ztk,List.foldl_append, <- zGs];cases h:zi1 t.Fs with
  | true=>rw [zbbN (u:=(zct t.Fs [[]]).foldl znD s) (by unfold z6g; rw [if_pos h]),Bool.true_and]; exact z7h r _
  | false=>rw [zbbS (v:=.inl false) (by unfold z6g; rw [if_neg (by rw [h]; simp)]),Bool.false_and,if_neg (by simp)]
def z6w (a:yC):yB×Bool:=if zwy a=true then (zBM a,true) else ([],false)
theorem zbhN (g:yC->Bool×(yB×Bool)) (a:yC) (out:yB) (i:Nat) (hi:i<a.length) (hl:(a.getD i default).Fs.length<=40) (ht:zW (a.getD i default).Fs<=39)
  (hg:∀ f∈(a.getD i default).Fs,f.At.Kind=2->∃ b,f.At.Ag=[b]/\g b=(true,z6w b))
  (hs:∀ f∈(a.getD i default).Fs,(ze4 f.At).length<=2 ^ (zfC f.At / 2)/\∀ s∈ze4 f.At,s.length<=1+zfC f.At) (n:Nat) (hn:(a.getD i default).Fs.length<n):
  zAI g n a out i [[]] 0=(true,if zi1 (a.getD i default).Fs=true then .inr (a,out,(i:Int),zct (a.getD i default).Fs [[]]) else .inl false):=by
 have h:=zOw (W:=zAZ g) (z:=.inl default) (a.getD i default).Fs (λk s=>(a,out,(i:Int),s,(k:Int),())) (λ_ _=>()) z6P (λs=>.inr (a,out,(i:Int),s))
  (λk s=>s.length<=2 ^ (zW ((a.getD i default).Fs.take k) / 2)/\(∀ x∈s,x.length<=k+zW ((a.getD i default).Fs.take k))/\∀ x∈s,zhU cR x)
  (λk s hk hI=>by
   have hm:=zR hk;have hf:=hs _ hm;have tk:=zNw hk;have tl:=zHB (a.getD i default).Fs (k+1);have pl:=z2k s (ze4 ((a.getD i default).Fs.getD k default).At)
   have hmul:s.length*(ze4 ((a.getD i default).Fs.getD k default).At).length<=2 ^ (zW ((a.getD i default).Fs.take (k+1)) / 2):=by
    refine Nat.le_trans (Nat.mul_le_mul hI.1 hf.1) ?_;rw [<- Nat.pow_add];exact Nat.pow_le_pow_right (by omega) (by omega)
   have hbig:=zYS (show zW ((a.getD i default).Fs.take (k+1)) / 2<=19 by omega)
   have hs1:=zYS (show zW ((a.getD i default).Fs.take k) / 2<=19 by omega)
   have hs2:=zYS (show zfC ((a.getD i default).Fs.getD k default).At / 2<=19 by omega)
   have sm:=zSL hI.2.1 hf.2;refine ⟨λu hu=> ?_,λH K D=> ?_⟩
   ·unfold z6P at hu;split at hu
    ·rw [Sum.inl.injEq] at hu;subst hu;refine ⟨Nat.le_trans (zMa _) (Nat.le_trans pl hmul),λx hx=> ?_,λx hx=>zFK (ztB.1 hx).1⟩
     have:=zD2 sm x hx;omega
    ·cases hu
   ·show (zn0 g a out i s k).ev H K D=_;unfold zn0 z6P
    have e20:=λm hm=>zbgv g a out i s (k:Int) (ze4 ((a.getD i default).Fs.getD k default).At) (by omega) (by omega) (by omega) hI.2.2 (λx hx y hy=>by
     have:=hI.2.1 x hx;have:=hf.2 y hy;omega) m hm
    by_cases h2:((a.getD i default).Fs.getD k default).At.Kind=2
    ·obtain ⟨b,eb,gb⟩:=hg _ hm h2;have ek:(((a.getD i default).Fs.getD k default).At.Kind==2)=true:=by rw [h2]; rfl
     have ea:(List.getD ((a.getD i default).Fs.getD k default).At.Ag (Int.toNat 0) default)=b:=by rw [eb]; rfl
     have ea':decide ((0:Int)<(((a.getD i default).Fs.getD k default).At.Ag.length:Int))=true:=by rw [eb]; rfl
     rw [z3a h2 eb];simp only [Wy.ev_i,Wy.ev_k,Wy.ev_h,Wy.ev_bn,Wy.ev_d,tT,hi,hk,ek,ea,ea',gb,cond_true,Int.le_refl,decide_true,Bool.and_self];unfold z6w;cases hb:zwy b with
     | false=>rfl
     | true=>
      rw [zNP h2 eb] at e20;simp only [if_true,Bool.not_true,cond_false];rw [e20 (a.length+out.length+i+s.length+k+(zBM b).length+0+Int.toNat 0+1000) (by omega),zNP h2 eb]
      simp only [cond_true];rw [zV (by omega)]
    ·have ek:(((a.getD i default).Fs.getD k default).At.Kind==2)=false:=by rw [beq_eq_false_iff_ne]; exact h2
     by_cases h0:((a.getD i default).Fs.getD k default).At.Kind=0
     ·have e0:(((a.getD i default).Fs.getD k default).At.Kind != 0)=false:=by rw [h0]; rfl
      rw [zHd,h0];rw [zGN h2] at e20;have e20':=e20 (a.length+out.length+i+s.length+k+[[((a.getD i default).Fs.getD k default).At.Row]].length+0+Int.toNat 0+1000) (by omega)
      simp only [Wy.ev_i,Wy.ev_k,Wy.ev_h,Wy.ev_bn,Wy.ev_d,tT,hi,hk,ek,e0,e20',cond_true,cond_false];rw [zV (by omega),zGN h2]; rfl
     ·have e0:(((a.getD i default).Fs.getD k default).At.Kind != 0)=true:=by rw [bne_iff_ne]; exact h0
      have e3:(((a.getD i default).Fs.getD k default).At.Kind==0)=false:=by rw [beq_eq_false_iff_ne]; exact h0
      rw [zHd,e3,ek];simp only [Wy.ev_i,Wy.ev_k,Wy.ev_h,Wy.ev_bn,Wy.ev_d,tT,hi,hk,ek,e0,cond_true,cond_false];rfl)
  (λs hI H K D=>by
   show (zn0 g a out i s (a.getD i default).Fs.length).ev H K D=_;unfold zn0;simp only [Wy.ev_i,Wy.ev_k,tT,hi,Nat.lt_irrefl]) n [[]] hn ⟨by simp [zW],λx hx=>by rw [qh.1 hx]; simp,zbbG⟩
 have h:zAI g n a out i [[]] 0=_:=h;rw [h,z7D];cases zi1 (a.getD i default).Fs <;>rfl
theorem zbfl:∀ (d n:Nat) (a:yC),d<=n->zF d a->QA a->zb4 a<=40->zfH n a=(true,z6w a)
 | 0,n,a,hn,h,_,_=>h.elim
 | d+1,0,a,hn,h,q,ht=>by omega
 | d+1,n+1,a,hn,h,q,ht=>by
  have S:=z3e (d+1) a h q;have hbig:=zbb8 (show (zb4 a+1) / 2<=20 by omega)
  have hall:=S.all;have hA:=h.1;rw [zZS];unfold zzR zK1
  have h3:=zOw (W:=zA4 (zfH n)) (z:=.inl default) a (λi o=>(a,o,(i:Int),())) (λ_ _=>()) z6g .inr
   (λi o=>o.length+(zeN (a.drop i)).length<=524288/\∀ x∈o,x.length<=1000)
   (λi o hi hI=>by
    have hm:=zR hi;have hI1:=hI.1;rw [zZ hi,ztk,qg] at hI1
    have htf:(a.getD i default).Fs.length<=40/\zW (a.getD i default).Fs<=39:=by
     have:∀ {l:yC} {t:Term},t∈l->1+t.Fs.length+zW t.Fs<=zb4 l:=by
      intro l;induction l with
      | nil=>intro t h; cases h
      | cons x r ih=>
       intro t h;rw [zxE];rcases qd.1 h with rfl | h
       ·omega
       ·have:=ih h; omega
     have:=this hm;omega
    have hfl:=(S.fac _ hm).2;refine ⟨λu hu=> ?_,λH K D=> ?_⟩
    ·unfold z6g at hu;split at hu
     ·rw [Sum.inl.injEq] at hu;subst hu;refine ⟨?_,λx hx=> ?_⟩
      ·have:=zXV (zct (a.getD i default).Fs [[]]) o;omega
      ·rcases zVH hx with hx | hx
       ·exact hI.2 x hx
       ·have:=hfl x hx; omega
     ·cases hu
    ·show (zoh (zfH n) a o i).ev H K D=_;unfold zoh z6g
     have e7:=zbhN (zfH n) a o i hi htf.1 htf.2 (λf hf hk=>by
      obtain ⟨b,eb,vb,_⟩:=z5p ((q.2 _ hm).2.2 f hf).2 hk
      have hb:zb4 b<=40:=by
       have h1:=zGf hf;rw [zJK,eb,zDu] at h1;omega
      exact ⟨b,eb,zbfl d n b (by omega) (((h.2 _ hm).2 f hf).2.1 b (by rw [eb]; simp)) (zvX vb) hb⟩) (S.at_ _ hm)
      (a.length+o.length+i+1+Int.toNat (0:Int)+1000) (by omega)
     simp only [Wy.ev_i,Wy.ev_k,Wy.ev_h,Wy.ev_bn,Wy.ev_d,tT,hi,e7];cases hx:zi1 (a.getD i default).Fs with
     | false=>rfl
     | true=>
      have e28:=zbhB (zfH n) a o (i:Int) (zct (a.getD i default).Fs [[]]) (by omega) hI.2 (λx hx=>by have:=hfl x hx; omega)
       (a.length+o.length+i+(zct (a.getD i default).Fs [[]]).length+Int.toNat (0:Int)+1000) (by omega)
      simp only [if_true,isL,getR,cond_false,cond_true,Int.toNat_natCast,e28];rw [zV (by omega)])
   (λo hI H K D=>by
    show (zoh (zfH n) a o a.length).ev H K D=_;unfold zoh;simp only [Wy.ev_i,Wy.ev_k,tT,Nat.lt_irrefl]) (a.length+(0:Nat)+Int.toNat (0:Int)+(1000:Nat)) [] (by omega) ⟨by rw [List.drop_zero]; simp only [List.length_nil]; omega,λx hx=>by cases hx⟩
  have h3:zI0 (zfH n) (a.length+(0:Nat)+Int.toNat (0:Int)+(1000:Nat)) a [] 0=_:=h3;rw [Wy.fin_bn,h3,z7h];unfold z6w;cases hx:zwy a with
  | false=>rfl
  | true=>
   rw [if_pos rfl,z8V (z3N a)]; rfl
theorem z7X {a:yC} (oa:okA a) (ht:zb4 a<=40):zsC a=(true,zRM a):=by
 unfold zsC zIU zRM;rw [Wy.fin_bn,oa.rvalid];cases hv:zdM a with
 | false=>rfl
 | true=>
  rw [if_pos rfl,cond_true];have h2:zLu a=(true,z6w a):=zbfl 12 1000 a (by omega) oa.1.1 (zvX hv) ht
  simp only [Wy.fin_i,Wy.fin_k,Wy.fin_bn,h2,Bool.not_true,cond_false,cond_true];unfold z6w;cases hx:zwy a with
  | false=>rfl
  | true=>
   rw [if_pos rfl,if_pos rfl];simp only [Bool.not_true,cond_false];by_cases hl:512<(zBM a).length
   ·have:decide (Int.ofNat (zBM a).length>512)=true:=by rw [qe,Int.ofNat_eq_natCast]; omega
    rw [if_pos hl,this]; rfl
   ·have:decide (Int.ofNat (zBM a).length>512)=false:=by rw [decide_eq_false_iff_not,Int.ofNat_eq_natCast]; omega
    rw [if_neg hl,this]; rfl
end Go.Proofs.YtljlfiomikifjaaGreatDoor
/- The law of witnesses. -/
set_option maxRecDepth 100000
namespace Go.Proofs.YtljlfiomikifjaaGreatDoor
open Go Go.Ab
theorem zbdw {a:yC} (oa:okA a) (ht:zb4 a<=40) (hv:zdM a=true):(zBM a).length<=524288/\∀ s∈zBM a,s.length<=40:=by
 have S:=z3e 12 a oa.1.1 (zvX hv);have hbig:=zbb8 (show (zb4 a+1) / 2<=20 by omega)
 have e1:=zMa (zeN a);have hall:=S.all;refine ⟨?_,λs hs=> ?_⟩
 ·show (zim (zeN a)).length<=_;omega
 ·have:=zD2 S.len s hs;omega
theorem zbdV {a:yC} (oa:okA a) (ht:zb4 a<=40):(zRM a).1.length<=524288/\∀ s∈(zRM a).1,s.length<=40:=by
 unfold zRM;by_cases hv:zdM a=true
 ·rw [if_pos hv];split
  ·split
   ·exact ⟨by simp,λs hs=>by cases hs⟩
   ·exact zbdw oa ht hv
  ·exact ⟨by simp,λs hs=>by cases hs⟩
 ·rw [if_neg hv];exact ⟨by simp,λs hs=>by cases hs⟩
theorem z3P (a:yC) (ha:z9S a):ze9 a=(true,true):=by
 obtain ⟨q,q1,q2⟩:=zbie (n:=40) (by omega) ha
 have l5:okA a->zb4 a<=40->zuy 1 a=(true,true):=λoa ht=>by
  show (zl1 a).ev (zH zl0 default 0) (λr=>(true,r)) (false,default)=_
  unfold zl1;have hs:=zbdV oa ht;have e:=zbeq (zRM a).1 (zRM a).1 (by omega) (λs h=>by have:=hs.2 s h; omega) (λs h=>by have:=hs.2 s h; omega)
  simp only [Wy.ev_i,Wy.ev_bn,Wy.ev_k,z9z oa ht,z7X oa ht,e,cond_true,beq_self_eq_true,decide_true]
 have l3:zuJ 1 a=(true,true):=by
  show (zl9 a).ev (zH zlZ default 0) (λr=>(true,r)) (false,default)=_
  unfold zl9;replace q1:zzC (40:Int) [a]=(true,q):=q1;simp only [Wy.ev_i,Wy.ev_bn,Wy.ev_k,q1,cond_true];cases q with
  | false=>rfl
  | true=>
   obtain ⟨oa,wa⟩:=q2 rfl;rw [l5 oa wa];rfl
 unfold ze9 zvR;rw [Wy.fin_bn,l3]; rfl
end Go.Proofs.YtljlfiomikifjaaGreatDoor
end
