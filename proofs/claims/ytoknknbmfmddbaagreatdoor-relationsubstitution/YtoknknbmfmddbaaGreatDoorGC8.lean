/- Texts of this claim, joined (the program, its functions in plain words, and what they compute). -/
import Derived.Test.YtoknknbmfmddbaaGreatDoorGC7
set_option autoImplicit false
set_option linter.unusedVariables false
set_option linter.unusedSectionVars false
set_option linter.unusedSimpArgs false
set_option maxRecDepth 1000000
set_option maxHeartbeats 0
/- The library's stable merge sort at rows, and is stable: halves, insertion into a zBT part. -/
noncomputable section
namespace Go.Proofs.YtoknknbmfmddbaaGreatDoor
open Go Go.Ab
structure CW (U:Row->Prop):Prop where
 ends : ∀ x y, U x -> U y -> ∃ z, zcA x y = (true, z)
def ltW (x y:Row):Prop:=(zcA x y).2<0
theorem CW.eq {U:Row->Prop} (h:CW U) {x y:Row} (hx:U x) (hy:U y):zcA x y=(true,(zcA x y).2):=by
 obtain ⟨z,e⟩:=h.ends x y hx hy;rw [e]
theorem zbj7 {U:Row->Prop} (hU:CW U) (P S:yF) (a b i:Int) (ha:a=(P.length:Int)):∀ (n:Nat) (L R:yF) (x:Row),(P++L++x::(R++S)).length<=1000000->L.length<n->U x->(∀ y∈L,U y)->
  ∃ L' R',zhA n a b i ((P.length+L.length:Nat):Int) (P++L++x::(R++S))=(true,(a,b,i,P++L'++x::(R'++S)))/\L'++R'=L++R/\(∀ r∈R',r∈R\/ltW x r)/\(L'=[]\/∃ L0 y,L'=L0++[y]/\¬ ltW x y)
 | 0,L,R,x,hN,hn,_,_=>by omega
 | n+1,L,R,x,hN,hn,hx,hL=>by
  subst ha;simp only [qf,qc] at hN;show ∃ L' R',(zhs P.length b i (P.length+L.length:Nat) (P++L++x::(R++S))).ev (λx y=>zhA n x.2.1 x.2.2.1 x.2.2.2.2.1 x.2.2.2.2.2.1 y.1) (λr=>(true,r)) (false,default)=_/\_
  unfold zhs Wy.ix;rcases List.eq_nil_or_concat L with rfl | ⟨L0,y,rfl⟩
  ·have e:decide (((P.length+([]:yF).length:Nat):Int)>(P.length:Int))=false:=by rw [q1c]; simp
   simp only [Wy.ev_i,Wy.ev_k,e,q9];exact ⟨[],R,rfl,rfl,λr hr=>.inl hr,.inl rfl⟩
  ·rw [List.concat_eq_append] at *;simp only [qf,qy] at hN hn;have e:decide (((P.length+(L0++[y]).length:Nat):Int)>(P.length:Int))=true:=by rw [qb]; simp; omega
   have ed:P++(L0++[y])++x::(R++S)=(P++L0)++y::([]++x::(R++S)):=by simp
   have ej:((P.length+(L0++[y]).length:Nat):Int)=(((P++L0).length+1+([]:yF).length:Nat):Int):=by simp; omega
   have wj:IntKind.i64.wrap ((((P++L0).length+1+([]:yF).length:Nat):Int) - 1)=(((P++L0).length:Nat):Int):=by
    simp only [qf,qv];rw [ze5 (by omega) (by omega)]; omega
   have hlen:∀ u v:Row,((P++L0)++u::([]++v::(R++S))).length=P.length+L0.length+1+1+R.length+S.length:=λu v=>by simp only [qf,qc,qv]; omega
   have g1:∀ u v:Row,(decide ((0:Int)<=(((P++L0).length+1+([]:yF).length:Nat):Int))&&decide ((((P++L0).length+1+([]:yF).length:Nat):Int)<Int.ofNat ((P++L0)++u::([]++v::(R++S))).length))=true:=λu v=>by
    rw [hlen]; simp only [qa,qb,qw,qf,qv]; omega
   have g2:∀ u v:Row,(decide ((0:Int)<=(((P++L0).length:Nat):Int))&&decide ((((P++L0).length:Nat):Int)<Int.ofNat ((P++L0)++u::([]++v::(R++S))).length))=true:=λu v=>by
    rw [hlen]; simp only [qa,qb,qw,qf]; omega
   have g3:∀ u v:Row,decide ((P++L0).length+1+([]:yF).length<((P++L0)++u::([]++v::(R++S))).length)=true:=λu v=>by
    rw [hlen,qb]; simp only [qf,qv]; omega
   have g4:∀ u v:Row,decide ((P++L0).length<((P++L0)++u::([]++v::(R++S))).length)=true:=λu v=>by
    rw [hlen,qb]; simp only [qf]; omega
   obtain ⟨z,ez⟩:=hU.ends x y hx (hL y (by simp))
   have hz:ltW x y↔z<0:=by unfold ltW; rw [ez]
   rw [e,ed,ej,wj];simp only [Wy.ev_i,Wy.ev_k,Wy.ev_h,Wy.ev_bn,Wy.ev_d,qt,g1,g2,g3,g4,zbkr,zbbM,zbkZ,zbc4,q7,ez];by_cases hlt:z<0
   ·rw [qg hlt,q7];obtain ⟨L',R',k1,k2,k3,k4⟩:=zbj7 hU P S P.length b i rfl n L0 (y::R) x (by simp only [qf,qc]; omega) (by omega) hx (λz hz=>hL z (by simp [hz]))
    refine ⟨L',R', ?_,by rw [k2]; simp,λr hr=> ?_,k4⟩
    ·rw [<- k1];simp
    ·rcases k3 r hr with h | h
     ·rcases q8.1 h with rfl | h
      ·exact .inr (hz.2 hlt)
      ·exact .inl h
     ·exact .inr h
   ·rw [qd hlt,q9];refine ⟨L0++[y],R, ?_,rfl,λr hr=>.inl hr,   .inr ⟨L0,y,rfl,λh=>hlt (hz.1 h)⟩⟩
    simp
abbrev zCO (l:yF):Prop:=l.Pairwise λx y=>¬ ltW y x
structure OW (U:Row->Prop):Prop extends CW U where
 asym:∀ x y,U x->U y->ltW x y->¬ ltW y x
 ntr:∀ x y z,U x->U y->U z->¬ ltW x y->¬ ltW y z->¬ ltW x z
def clW (v y:Row):Bool:=decide (¬ (zcA v y).2<0)&&decide (¬ (zcA y v).2<0)
theorem z0R {v y:Row}:clW v y=true↔¬ ltW v y/\¬ ltW y v:=by unfold clW ltW; simp
structure PS (U:Row->Prop) (Z L:yF):Prop where
 perm:Z.Perm L
 stab:∀ v,U v->Z.filter (clW v)=L.filter (clW v)
theorem PS.refl {U:Row->Prop} (L:yF):PS U L L:=⟨.refl _,λ_ _=>rfl⟩
theorem PS.trans {U:Row->Prop} {A B C:yF} (h:PS U A B) (k:PS U B C):PS U A C:=⟨h.perm.trans k.perm,λv hv=>(h.stab v hv).trans (k.stab v hv)⟩
theorem PS.append {U:Row->Prop} {A B C D:yF} (h:PS U A B) (k:PS U C D):PS U (A++C) (B++D):=⟨h.perm.append k.perm,λv hv=>by rw [q36,q36,h.stab v hv,k.stab v hv]⟩
theorem PS.swap {U:Row->Prop} (h:OW U) {A B:yF} (hA:∀ y∈A,U y) (hB:∀ y∈B,U y) (hl:∀ a∈A,∀ b∈B,ltW a b\/ltW b a):PS U (A++B) (B++A):=⟨List.perm_append_comm,λv hv=>by
 rw [q36,q36];cases ea:A.filter (clW v) with
 | nil=>simp
 | cons a A'=>
  cases eb:B.filter (clW v) with
  | nil=>simp
  | cons b B'=>
   exfalso;obtain ⟨a1,a2⟩:=q2z.1 (show a∈A.filter (clW v) by rw [ea]; simp)
   obtain ⟨b1,b2⟩:=q2z.1 (show b∈B.filter (clW v) by rw [eb]; simp)
   obtain ⟨a3,a4⟩:=z0R.1 a2;obtain ⟨b3,b4⟩:=z0R.1 b2;rcases hl a a1 b b1 with h1 | h1
   ·exact h.ntr a v b (hA a a1) hv (hB b b1) a4 b3 h1
   ·exact h.ntr b v a (hB b b1) hv (hA a a1) b4 a3 h1⟩
theorem zbgl {U:Row->Prop} (h:OW U) {L R:yF} {x:Row} (hx:U x) (hL:∀ y∈L++R,U y) (hs:zCO (L++R)) (h1:∀ r∈R,ltW x r) (h2:L=[]\/∃ L0 y,L=L0++[y]/\¬ ltW x y):zCO (L++x::R):=by
 have hs':=q1m.1 hs;refine q1m.2 ⟨hs'.1,qh.2 ⟨λr hr=>h.asym x r hx (hL r (by simp [hr])) (h1 r hr),hs'.2.1⟩,λy hy z hz=> ?_⟩
 rcases q8.1 hz with rfl | hz
 ·rcases h2 with rfl | ⟨L0,w,rfl,hw⟩
  ·cases hy
  ·rcases q12.1 hy with hy | hy
   ·have:=(q1m.1 hs'.1).2.2 y hy w (by simp)
    exact h.ntr z w y hx (hL w (by simp)) (hL y (by simp [hy])) hw this
   ·rw [qj.1 hy]; exact hw
 ·exact hs'.2.2 y hy z hz
theorem zbka {U:Row->Prop} (h:OW U) (P S:yF) (a b:Int) (ha:a=(P.length:Int)):∀ (n:Nat) (Z1 Z2:yF),(P++Z1++Z2++S).length<=1000000->b=((P.length+Z1.length+Z2.length:Nat):Int)->Z2.length<n->(∀ y∈Z1,U y)->(∀ y∈Z2,U y)->zCO Z1->Z1.length<=900->
  Z1.length+Z2.length<=900->∃ Z,zdB n a b ((P.length+Z1.length:Nat):Int) (P++Z1++Z2++S)=(true,P++Z++S)/\PS U Z (Z1++Z2)/\zCO Z
 | 0,Z1,Z2,hN,hb,hn,_,_,_,_,_=>by omega
 | n+1,Z1,Z2,hN,hb,hn,u1,u2,hs,h9,h99=>by
  simp only [qf] at hN;show ∃ Z,(zdw a b (P.length+Z1.length:Nat) (P++Z1++Z2++S)).ev (λx y=>zdB n x.2.1 x.2.2.1 x.2.2.2.2.1 y.1) (λr=>(true,r)) (false,default)=_/\_
  unfold zdw;cases Z2 with
  | nil=>
   have e:decide (((P.length+Z1.length:Nat):Int)<b)=false:=by rw [q1c,hb]; simp
   simp only [Wy.ev_i,Wy.ev_k,e,q9];exact ⟨Z1,by simp,by rw [q1o]; exact PS.refl _,hs⟩
  | cons x Z2=>
   simp only [qc] at hN hb hn h99;have e:decide (((P.length+Z1.length:Nat):Int)<b)=true:=by rw [qb,hb]; omega
   obtain ⟨L',R',k1,k2,k3,k4⟩:=zbj7 h.toCW P (Z2++S) a b ((P.length+Z1.length:Nat):Int) ha (a.toNat +b.toNat +(P.length+Z1.length)+(P.length+Z1.length)+(P++Z1++x::Z2++S).length+1000) Z1 [] x (by simp only [qf,qc,qv]; omega) (by omega) (u2 x (by simp)) u1
   have ed:P++Z1++x::([]++(Z2++S))=P++Z1++x::Z2++S:=by simp
   rw [ed] at k1;simp only [Wy.ev_i,Wy.ev_k,Wy.ev_h,Wy.ev_bn,Wy.ev_d,e,q7,qt,k1];rw [q1o] at k2
   have hlen:(L'++x::R').length=Z1.length+1:=by
    have:=congrArg List.length k2;simp only [qf,qc] at *; omega
   have hsl:zCO (L'++x::R'):=zbgl h (u2 x (by simp)) (λy hy=>by rw [k2] at hy; exact u1 y hy) (by rw [k2]; exact hs) (λr hr=>by
    rcases k3 r hr with h | h
    ·cases h
    ·exact h) k4
   have hmem:∀ y∈L'++x::R',U y:=λy hy=>by
    rcases q12.1 hy with hy | hy
    ·exact u1 y (by rw [<- k2]; simp [hy])
    ·rcases q8.1 hy with rfl | hy
     ·exact u2 y (by simp)
     ·exact u1 y (by rw [<- k2]; simp [hy])
   obtain ⟨Z,m1,m2,m3⟩:=zbka h P S a b ha n (L'++x::R') Z2 (by simp only [qf] at hlen ⊢; simp only [qc] at hlen ⊢; omega) (by rw [hb,hlen]; omega) (by omega) hmem (λy hy=>u2 y (by simp [hy])) hsl (by omega) (by omega)
   refine ⟨Z, ?_,m2.trans ?_,m3⟩
   ·have wi:IntKind.i64.wrap (((P.length+Z1.length:Nat):Int)+1)=((P.length+(L'++x::R').length:Nat):Int):=by rw [hlen,ze5 (by omega) (by omega)]; omega
    rw [wi, <- m1];congr 1;simp
   ·have hr:∀ r∈R',ltW x r:=λr hr=>(k3 r hr).resolve_left (by simp)
    have h1:PS U ([x]++R') (R'++[x]):=PS.swap h (λy hy=>by rw [qj.1 hy]; exact u2 x (by simp)) (λy hy=>hmem y (by simp [hy])) (λa ha b hb=>by rw [qj.1 ha]; exact .inl (hr b hb))
    have h2:=((PS.refl L').append h1).append (PS.refl Z2);rw [<- qu L' R',k2] at h2
    simpa using h2
theorem zbn0 {U:Row->Prop} (h:OW U) (P Z S:yF) (hN:(P++Z++S).length<=1000000) (u:∀ y∈Z,U y) (h9:Z.length<=900) (a b:Int) (ha:a=(P.length:Int)) (hb:b=((P.length+Z.length:Nat):Int)):
  ∃ Z',zc6 (P++Z++S) a b=(true,P++Z'++S)/\PS U Z' Z/\zCO Z':=by
 simp only [qf] at hN;unfold zc6 zm3;have wa:IntKind.i64.wrap (a+1)=((P.length+1:Nat):Int):=by rw [ha,ze5 (by omega) (by omega)]; omega
 rw [wa];cases Z with
 | nil=>
  refine ⟨[], ?_,PS.refl _,.nil⟩;have e:decide (((P.length+1:Nat):Int)<b)=false:=by rw [q1c,hb]; simp; omega
  have e1:∀ k,zdB (k+1) a b ((P.length+1:Nat):Int) (P++([]:yF)++S)=(true,P++([]:yF)++S):=λk=>by
   show (zdw a b (P.length+1:Nat) (P++([]:yF)++S)).ev _ _ _=_;unfold zdw;rw [Wy.ev_i,e]; rfl
  have e2:zdB (a.toNat +b.toNat +Int.toNat ((P.length+1:Nat):Int)+(P++([]:yF)++S).length+(1000:Nat)) a b ((P.length+1:Nat):Int) (P++([]:yF)++S)=(true,P++([]:yF)++S):=e1 (a.toNat +b.toNat +Int.toNat ((P.length+1:Nat):Int)+(P++([]:yF)++S).length+999);rw [Wy.fin_bn,e2]; rfl
 | cons x Z=>
  simp only [qc] at hN h9 hb;obtain ⟨Z',k1,k2,k3⟩:=zbka h P S a b ha (a.toNat +b.toNat +Int.toNat ((P.length+1:Nat):Int)+(P++x::Z++S).length+(1000:Nat)) [x] Z (by simp only [qf,qy]; omega) (by rw [hb]; simp only [qy]; omega) (by omega) (λy hy=>u y (by rw [qj.1 hy]; simp)) (λy hy=>u y (by simp [hy])) (by simp) (by simp) (by simp only [qy]; omega)
  have ed:P++[x]++Z++S=P++x::Z++S:=by simp
  rw [ed,show ([x]:yF).length=1 from rfl] at k1
  rw [Wy.fin_bn,k1];exact ⟨Z',rfl,k2,k3⟩
theorem zbi8 (k:Nat) {n bs a b:Int} (D:yF) (h:¬ b<=n):zkU (k+1) n bs a b D=(true,(n,bs,a,D)):=by
 show (zkS n bs a b D).ev _ _ _=_;unfold zkS;rw [Wy.ev_i,qd h]; rfl
theorem zbjl (k:Nat) {n bs:Int} (D:yF) (h:¬ bs<n):zkY (k+1) n bs D=(true,D):=by
 show (zkT n bs D).ev _ _ _=_;unfold zkT;rw [Wy.ev_i,qd h]; rfl
theorem zbkg {U:Row->Prop} (hU:OW U) {l:yF} (u:∀ y∈l,U y) (h4:l.length<20):∃ Z,zcF l=(true,Z)/\PS U Z l/\zCO Z:=by
 suffices h:∃ Z,zf4 l (Int.ofNat l.length)=(true,Z)/\PS U Z l/\zCO Z by
  obtain ⟨Z,k1,k2,k3⟩:=h;refine ⟨Z, ?_,k2,k3⟩;unfold zcF zlJ;rw [Wy.fin_bn,k1]; rfl
 rw [qw];unfold zf4 zt1;have e2:zkU (Int.toNat (l.length:Int)+Int.toNat (20:Int)+Int.toNat (0:Int)+Int.toNat (20:Int)+l.length+(1000:Nat)) l.length 20 0 20 l=(true,((l.length:Int),20,0,l)):=zbi8 (Int.toNat (l.length:Int)+Int.toNat (20:Int)+Int.toNat (0:Int)+Int.toNat (20:Int)+l.length+999) l (by omega)
 obtain ⟨Z,k1,k2,k3⟩:=zbn0 hU [] l [] (by simp; omega) u (by omega) 0 (l.length:Int) (by simp) (by simp)
 have e7:zkY (Int.toNat (l.length:Int)+Int.toNat (20:Int)+Z.length+(1000:Nat)) l.length 20 Z=(true,Z):=zbjl (Int.toNat (l.length:Int)+Int.toNat (20:Int)+Z.length+999) Z (by omega)
 rw [q10,q1o,q10,q1o] at k1;refine ⟨Z, ?_,k2,k3⟩;simp only [Wy.fin_bn,e2,k1,e7,q7,Wy.fin_k]
def zDg (x:Row):yF->yF
 | []=>[x]
 | y::r=>if (zcA x y).2<0 then x::y::r else y::zDg x r
def zK7 (l:yF):yF:=l.foldl (λs x=>zDg x s) []
theorem z9A (x:Row):∀ l,(zDg x l).Perm (x::l)
 | []=>.refl _
 | y::r=>by
  rw [zDg];split
  ·exact .refl _
  ·exact ((z9A x r).cons y).trans (.swap x y r)
section
variable {U:Row->Prop} (h:OW U)
include h
theorem z5D {x:Row} (hx:U x):¬ ltW x x:=λk=>h.asym x x hx hx k k
theorem zbdF {x:Row} (hx:U x):∀ l,(∀ y∈l,U y)->zCO l->zCO (zDg x l)
 | [],_,_=>by simp [zDg]
 | y::r,u,a=>by
  have a':=qh.1 a;rw [zDg];split
  ·rename_i hlt;refine qh.2 ⟨λz hz=> ?_,a⟩
   have hy:¬ ltW y x:=h.asym x y hx (u y (by simp)) hlt
   rcases q8.1 hz with rfl | hz
   ·exact hy
   ·exact h.ntr z y x (u z (by simp [hz])) (u y (by simp)) hx (a'.1 z hz) hy
  ·rename_i hlt;refine qh.2 ⟨λz hz=> ?_,zbdF hx r (λy hy=>u y (by simp [hy])) a'.2⟩
   rcases q8.1 ((z9A x r).mem_iff.1 hz) with rfl | hz
   ·exact hlt
   ·exact a'.1 z hz
theorem zbeX {x:Row} (hx:U x):∀ l,(∀ y∈l,U y)->zCO l->PS U (zDg x l) (l++[x])
 | [],_,_=>PS.refl _
 | y::r,u,a=>by
  have a':=qh.1 a;rw [zDg];split
  ·rename_i hlt;refine PS.swap h (A:=[x]) (B:=y::r) (λz hz=>by rw [qj.1 hz]; exact hx) u λz hz b hb=> ?_
   rw [qj.1 hz];rcases q8.1 hb with rfl | hb
   ·exact .inl hlt
   ·exact .inl (Classical.byContradiction λhn=>h.ntr x b y hx (u b (by simp [hb])) (u y (by simp)) hn (a'.1 b hb) hlt)
  ·exact (PS.refl (U:=U) [y]).append (zbeX hx r (λy hy=>u y (by simp [hy])) a'.2)
theorem z4G:∀ l s,(∀ y∈s++l,U y)->zCO s->zCO (l.foldl (λs x=>zDg x s) s)/\PS U (l.foldl (λs x=>zDg x s) s) (s++l)
 | [],s,u,a=>⟨a,by rw [q1o]; exact PS.refl _⟩
 | x::l,s,u,a=>by
  have hx:U x:=u x (by simp)
  have us:∀ y∈s,U y:=λy hy=>u y (by simp [hy])
  have p:=zbeX h hx s us a
  obtain ⟨k1,k2⟩:=z4G l (zDg x s) (λy hy=>by
   rcases q12.1 hy with hy | hy
   ·rcases q12.1 (p.perm.mem_iff.1 hy) with hy | hy
    ·exact us y hy
    ·rw [qj.1 hy]; exact hx
   ·exact u y (by simp [hy])) (zbdF h hx s us a)
  refine ⟨k1,k2.trans ?_⟩;have:=p.append (PS.refl (U:=U) l)
  rwa [qu] at this
theorem PS.uniq:∀ {Z L:yF},(∀ y∈L,U y)->zCO Z->zCO L->PS U Z L->Z=L
 | [],L,_,_,_,p=>p.perm.nil_eq
 | z::Z,[],_,_,_,p=>p.perm.eq_nil
 | z::Z,l::L,u,a,b,p=>by
  have hz:z∈l::L:=p.perm.mem_iff.1 (by simp)
  have hl:l∈z::Z:=p.perm.mem_iff.2 (by simp)
  have uz:=u z hz
  have h1:¬ ltW l z:=by
   rcases q8.1 hl with e | hl
   ·rw [e]; exact z5D h uz
   ·exact (qh.1 a).1 l hl
  have h2:¬ ltW z l:=by
   rcases q8.1 hz with e | hz
   ·rw [e]; exact z5D h (u l (by simp))
   ·exact (qh.1 b).1 z hz
  have c1:clW z z=true:=z0R.2 ⟨z5D h uz,z5D h uz⟩;have c2:clW z l=true:=z0R.2 ⟨h2,h1⟩;have f:=p.stab z uz;rw [List.filter_cons_of_pos c1,List.filter_cons_of_pos c2] at f;injection f with e f'
  subst e;refine congrArg _ (PS.uniq (λy hy=>u y (by simp [hy])) (qh.1 a).2 (qh.1 b).2 ⟨(List.perm_cons z).1 p.perm,λv hv=> ?_⟩)
  have f:=p.stab v hv;by_cases hc:clW v z=true
  ·rw [List.filter_cons_of_pos hc,List.filter_cons_of_pos hc] at f;injection f
  ·rw [List.filter_cons_of_neg hc,List.filter_cons_of_neg hc] at f;exact f
theorem zbk4 {l:yF} (u:∀ y∈l,U y) (h4:l.length<20):zcF l=(true,zK7 l):=by
 obtain ⟨Z,k1,k2,k3⟩:=zbkg h u h4;obtain ⟨m1,m2⟩:=z4G h l [] u .nil;rw [k1];refine congrArg _ (PS.uniq h (λy hy=>u y (m2.perm.mem_iff.1 hy)) k3 m1 (k2.trans ?_))
 exact ⟨m2.perm.symm,λv hv=>(m2.stab v hv).symm⟩
end
section
variable {ρ:Type} (c:ρ->ρ->Int) (add:ρ->ρ->Option ρ)
def zeY:List ρ->ρ->Option (List ρ)
 | [],x=>some [x]
 | y::l,x=>if c y x<0 then (zeY l x).map (y::·) else if c y x=0 then (add y x).map (· ::l) else some (x::y::l)
def zgW:ρ->List ρ->Option (List ρ)
 | w,[]=>some [w]
 | w,x::r=>if c w x=0 then (add w x).bind λz=>zgW z r else (zgW x r).map (w::·)
def mrg:List ρ->Option (List ρ)
 | []=>some []
 | x::r=>zgW c add x r
def zAl (x:ρ):List ρ->List ρ
 | []=>[x]
 | y::r=>if c x y<0 then x::y::r else y::zAl x r
structure MO (V:ρ->Prop):Prop where
 anti:∀ x y,V x->V y->(c x y<0↔0<c y x)
 trans:∀ x y z,V x->V y->V z->c x y<=0->c y z<=0->c x z<=0
 key:∀ x y z,V x->V y->add x y=some z->V z/\∀ w,V w->(c z w=c x w/\c w z=c w x)
variable {c add} {V:ρ->Prop} (h:MO c add V)
include h
theorem MO.zero {x y:ρ} (hx:V x) (hy:V y):c x y=0↔c y x=0:=by
 have h1:=h.anti x y hx hy;have h2:=h.anti y x hy hx;omega
theorem MO.lt1 {x y z:ρ} (hx:V x) (hy:V y) (hz:V z) (h1:c x y<0) (h2:c y z<=0):c x z<0:=by
 have a:=h.trans x y z hx hy hz (by omega) h2
 have b1:=h.anti x y hx hy;have b2:=h.anti y x hy hx;have b3:=h.anti x z hx hz;have b4:=h.anti z x hz hx;have b5:=h.anti y z hy hz;by_cases e:c x z=0
 ·have:=h.trans y z x hy hz hx h2 (by omega)
  omega
 ·omega
theorem MO.lt2 {x y z:ρ} (hx:V x) (hy:V y) (hz:V z) (h1:c x y<=0) (h2:c y z<0):c x z<0:=by
 have a:=h.trans x y z hx hy hz h1 (by omega)
 have b1:=h.anti x y hx hy;have b2:=h.anti y x hy hx;have b3:=h.anti x z hx hz;have b4:=h.anti z x hz hx;have b5:=h.anti y z hy hz;by_cases e:c x z=0
 ·have:=h.trans z x y hz hx hy (by omega) h1
  omega
 ·omega
theorem z9s:∀ (r:List ρ) (w:ρ) (M:List ρ),V w->(∀ y∈r,V y)->zgW c add w r=some M->∃ m t,M=m::t/\V m/\∀ x,V x->(c m x=c w x/\c x m=c x w)
 | [],w,M,hw,_,e=>by
  rw [zgW,q0] at e;exact ⟨w,[],e.symm,hw,λx _=>⟨rfl,rfl⟩⟩
 | x::r,w,M,hw,u,e=>by
  rw [zgW] at e;split at e
  ·cases ea:add w x with
   | none=>rw [ea] at e; cases e
   | some z=>
    rw [ea] at e;obtain ⟨k1,k2⟩:=h.key w x z hw (u x (by simp)) ea
    obtain ⟨m,t,e1,e2,e3⟩:=z9s r z M k1 (λy hy=>u y (by simp [hy])) e
    exact ⟨m,t,e1,e2,λy hy=>⟨(e3 y hy).1.trans (k2 y hy).1,(e3 y hy).2.trans (k2 y hy).2⟩⟩
  ·cases ea:zgW c add x r with
   | none=>rw [ea] at e; cases e
   | some M'=>
    rw [ea] at e;rw [qz,q0] at e;exact ⟨w,M',e.symm,hw,λx _=>⟨rfl,rfl⟩⟩
theorem z9P {r:List ρ} {w x:ρ} (hw:V w) (hx:V x) (u:∀ y∈r,V y) (hxw:c x w<0):(zgW c add w r).map (x::·)=(zgW c add w r).bind (λM=>zeY c add M x):=by
 cases e:zgW c add w r with
 | none=>rfl
 | some M=>
  obtain ⟨m,t,rfl,e2,e3⟩:=z9s h r w M hw u e;have h1:=(h.anti x w hx hw).1 hxw;have h2:=(e3 x hx).1;rw [qz,q1g,zeY,if_neg (by omega),if_neg (by omega)]
theorem z4I {x:ρ} (hx:V x):∀ (r:List ρ) (w:ρ),V w->(∀ y∈r,V y)->(w::r).Pairwise (λa b=>c a b<=0)->c w x<=0->zgW c add w (zAl c x r)=(zgW c add w r).bind λM=>zeY c add M x
 | [],w,hw,_,_,hle=>by
  rw [zAl,zgW,zgW,zgW,q1g,zeY,zeY];by_cases e:c w x=0
  ·rw [if_pos e,if_neg (by omega),if_pos e]; cases add w x <;>rfl
  ·rw [if_neg e,if_pos (by omega)]
 | y::r,w,hw,u,p,hle=>by
  have hy:V y:=u y (by simp)
  have ur:∀ y∈r,V y:=λy hy=>u y (by simp [hy])
  have p':=qh.1 p;have hwy:c w y<=0:=p'.1 y (by simp)
  have pr:=qh.1 p'.2;have ax:=h.anti x y hx hy;have ay:=h.anti y x hy hx;rw [zAl];by_cases hlt:c x y<0
  ·rw [if_pos hlt];have hwy':c w y<0:=h.lt2 hw hx hy hle hlt;rw [zgW];by_cases e:c w x=0
   ·rw [if_pos e];rw [show zgW c add w (y::r)=(zgW c add y r).map (w::·) by rw [zgW,if_neg (by omega)]]
    cases ea:add w x with
    | none=>
     rw [Option.bind_none];cases zgW c add y r with
     | none=>rfl
     | some M=>rw [qz,q1g,zeY,if_neg (by omega),if_pos e,ea]; rfl
    | some z=>
     obtain ⟨k1,k2⟩:=h.key w x z hw hx ea;rw [q1g,zgW,if_neg (by rw [(k2 y hy).1]; omega)]
     cases zgW c add y r with
     | none=>rfl
     | some M=>rw [qz,qz,q1g,zeY,if_neg (by omega),if_pos e,ea]; rfl
   ·rw [if_neg e];rw [show zgW c add w (y::r)=(zgW c add y r).map (w::·) by rw [zgW,if_neg (by omega)]]
    rw [zgW,if_neg (by omega),z9P h hy hx ur hlt]
    cases zgW c add y r with
    | none=>rfl
    | some M=>rw [qz,q1g,q1g,zeY,if_pos (by omega)]
  ·rw [if_neg hlt,zgW,zgW];by_cases e:c w y=0
   ·rw [if_pos e,if_pos e];cases ea:add w y with
    | none=>rfl
    | some z=>
     obtain ⟨k1,k2⟩:=h.key w y z hw hy ea;rw [q1g,q1g];exact z4I hx r z k1 ur (qh.2 ⟨λb hb=>by rw [(k2 b (ur b hb)).1]; exact p'.1 b (by simp [hb]),pr.2⟩) (by rw [(k2 x hx).1]; exact hle)
   ·rw [if_neg e,if_neg e,z4I hx r y hy ur p'.2 (by omega)]
    have hwx:c w x<0:=h.lt1 hw hy hx (by omega) (by omega)
    cases zgW c add y r with
    | none=>rfl
    | some M=>rw [qz,q1g,q1g,zeY,if_pos hwx]
theorem zblG {x:ρ} (hx:V x):∀ (r:List ρ),(∀ y∈r,V y)->r.Pairwise (λa b=>c a b<=0)->mrg c add (zAl c x r)=(mrg c add r).bind λM=>zeY c add M x
 | [],_,_=>rfl
 | y::r,u,p=>by
  have hy:V y:=u y (by simp)
  have ur:∀ y∈r,V y:=λy hy=>u y (by simp [hy])
  rw [zAl];by_cases hlt:c x y<0
  ·rw [if_pos hlt];show zgW c add x (y::r)=(zgW c add y r).bind _;rw [zgW,if_neg (by omega),z9P h hy hx ur hlt]
  ·rw [if_neg hlt];have ax:=h.anti x y hx hy;have ay:=h.anti y x hy hx;exact z4I h hx r y hy ur p (by omega)
theorem z4k {x y:ρ}:∀ {r:List ρ},y∈zAl c x r->y=x\/y∈r
 | [],k=>by rw [zAl] at k; simp_all
 | z::r,k=>by
  rw [zAl] at k;split at k
  ·exact q8.1 k
  ·rcases q8.1 k with rfl | k
   ·exact .inr (by simp)
   ·exact (z4k k).imp id λk=>by simp [k]
theorem zbco {x:ρ} (hx:V x):∀ (r:List ρ),(∀ y∈r,V y)->r.Pairwise (λa b=>c a b<=0)->(zAl c x r).Pairwise λa b=>c a b<=0
 | [],_,_=>by simp [zAl]
 | y::r,u,p=>by
  have hy:V y:=u y (by simp)
  have p':=qh.1 p;rw [zAl];split
  ·rename_i hlt;refine qh.2 ⟨λz hz=> ?_,p⟩
   rcases q8.1 hz with rfl | hz
   ·omega
   ·exact h.trans x y z hx hy (u z (by simp [hz])) (by omega) (p'.1 z hz)
  ·rename_i hlt;have ax:=h.anti x y hx hy;have ay:=h.anti y x hy hx;refine qh.2 ⟨λz hz=> ?_,zbco hx r (λy hy=>u y (by simp [hy])) p'.2⟩
   rcases z4k h hz with rfl | hz
   ·omega
   ·exact p'.1 z hz
theorem zbb5:∀ (l s:List ρ),(∀ y∈s++l,V y)->s.Pairwise (λa b=>c a b<=0)->mrg c add (l.foldl (λs x=>zAl c x s) s)=l.foldl (λo x=>o.bind λM=>zeY c add M x) (mrg c add s)
 | [],s,_,_=>rfl
 | x::l,s,u,p=>by
  have hx:V x:=u x (by simp)
  have us:∀ y∈s,V y:=λy hy=>u y (by simp [hy])
  rw [q11,q11, <- zblG h hx s us p];refine zbb5 l (zAl c x s) (λy hy=> ?_) (zbco h hx s us p)
  rcases q12.1 hy with hy | hy
  ·rcases z4k h hy with rfl | hy
   ·exact hx
   ·exact us y hy
  ·exact u y (by simp [hy])
end
def zTp {ρ:Type} (c:ρ->ρ->Int) (add:ρ->ρ->Option ρ):Option (List ρ)->ρ->Option (List ρ)
 | none,_=>none
 | some o,x=>match o.getLast? with
  | none=>some [x]
  | some w=>if c w x=0 then (add w x).map λz=>o.dropLast++[z] else some (o++[x])
theorem zY4 {ρ:Type} (c:ρ->ρ->Int) (add:ρ->ρ->Option ρ):∀ l:List ρ,l.foldl (zTp c add) none=none
 | []=>rfl
 | x::l=>zY4 c add l
theorem zXX {ρ:Type} (c:ρ->ρ->Int) (add:ρ->ρ->Option ρ):∀ (l o:List ρ) (w:ρ),l.foldl (zTp c add) (some (o++[w]))=(zgW c add w l).map (o++·)
 | [],o,w=>rfl
 | x::l,o,w=>by
  rw [q11,zgW];unfold zTp;simp only [List.getLast?_append,List.getLast?_singleton,Option.some_or,List.dropLast_concat];by_cases e:c w x=0
  ·rw [if_pos e,if_pos e];cases add w x with
   | none=>exact zY4 c add l
   | some z=>exact zXX c add l o z
  ·rw [if_neg e,if_neg e];have:=zXX c add l (o++[w]) x;unfold zTp at this;rw [this];cases zgW c add x l <;>simp
theorem zbkp {ρ:Type} (c:ρ->ρ->Int) (add:ρ->ρ->Option ρ):∀ l:List ρ,l.foldl (zTp c add) (some [])=mrg c add l
 | []=>rfl
 | x::l=>by
  have:=zXX c add l [] x;simp only [q10] at this;show l.foldl (zTp c add) (some [x])=zgW c add x l;rw [this]; cases zgW c add x l <;>rfl
end Go.Proofs.YtoknknbmfmddbaaGreatDoor
/- Relations: values and rows compared, columns, fitting rows: the program and the reference. -/
set_option maxRecDepth 100000
namespace Go.Proofs.YtoknknbmfmddbaaGreatDoor
open Go Go.Ab
def zbcl (a b:Value):Int:=zbe (trV a) (trV b)
theorem ref01_Compare_eq' (a b:Value):zka a b=(true,zbcl a b):=zC5 a b
theorem z6T (l:yG) (m:Int) (hl:l.length<=z6):∀ (n i:Nat),l.length<i+n->i<=l.length->∃ r,zHz n l m i=(true,r)/\(r=.inl false\/(r=.inr (l,m)/\∀ x∈l.drop i,x.Text.size<=300))
 | 0,i,h,h2=>by omega
 | n+1,i,h,h2=>by
  show ∃ r,(zHQ l m i).ev (λx y=>zHz n x.1 x.2.1 x.2.2.1) (λr=>(true,r)) (false,.inl default)=(true,r)/\_
  unfold zHQ Wy.ix;by_cases hi:i<l.length
  ·have hw:i<4611686018427387904:=by
    have:z6<4611686018427387904:=by decide
    omega
   have hs:decide (((l.getD i default).Text.size:Int)>(300:Int))=decide ((l.getD i default).Text.size>300):=zjR _ 300;simp only [Wy.ev_i,Wy.ev_k,Wy.ev_h,Wy.ev_bn,Wy.ev_d,tT,hi];rw [hs];by_cases h3:(l.getD i default).Text.size>300
   ·rw [qg h3];exact ⟨_,rfl,.inl rfl⟩
   ·rw [qd h3,q9,zu hw];obtain ⟨r,h4,h5⟩:=z6T l m hl n (i+1) (by omega) (by omega)
    refine ⟨r,h4, ?_⟩;rcases h5 with h5 | ⟨h5,h6⟩
    ·exact .inl h5
    ·refine .inr ⟨h5,λx hx=> ?_⟩
     rw [zbd hi] at hx;rcases q8.1 hx with rfl | hx
     ·omega
     ·exact h6 x hx
  ·simp only [Wy.ev_i,Wy.ev_k,Wy.ev_h,Wy.ev_bn,Wy.ev_d,tT,hi];exact ⟨_,rfl,.inr ⟨rfl,λx hx=>by rw [zb2 hi] at hx; cases hx⟩⟩
theorem zbjL (l:yG) (m:Nat) (hl:l.length<=z6):∃ b,zym l m=(true,b)/\(b=true->l.length<=m/\∀ x∈l,x.Text.size<=300):=by
 unfold zym zV3;obtain ⟨r,h1,h2⟩:=z6T l m hl (l.length+(m:Int).toNat +Int.toNat (0:Int)+(1:Nat)) 0 (by omega) (by omega)
 rw [show ((0:Nat):Int)=(0:Int) from rfl] at h1
 rw [Wy.fin_bn,h1];rcases h2 with rfl | ⟨rfl,h2⟩
 ·exact ⟨false,rfl,λh=>by cases h⟩
 ·refine ⟨decide (l.length<=m), ?_,λh=>⟨of_decide_eq_true h,h2⟩⟩
  show (true,decide (Int.ofNat l.length<=(m:Int)))=_;rw [show decide (Int.ofNat l.length<=(m:Int))=decide (l.length<=m) from zud _ _]
def zM5 (c:Column):Bool:=decide (0<=c.Type_)&&decide (c.Type_<=2)
def zAt (l:yH):Bool:=decide (l.length<=16)&&l.all zM5
def zK6 (k:Int) (b:Value):Bool:=zrF b&&decide (b.Kind=k)
def zjQ (l:yH) (row:yG):Bool:=decide (l.length=row.length)&&zd5 (λi=>zK6 (l.getD i default).Type_ (row.getD i default)) l.length 0
theorem zAn (a b:Nat):decide (Int.ofNat a=Int.ofNat b)=decide (a=b):=by
 by_cases h:a=b
 ·rw [h]; simp
 ·rw [qd h,qd]; intro e; exact h (Int.ofNat.inj e)
theorem z9F (l:yH) (hl:l.length<=1000000):∀ (n i:Nat),l.length<i+n->i<=l.length->zMw n l i=(true,bif (l.drop i).all zM5 then .inr l else .inl false)
 | 0,i,h,h2=>by omega
 | n+1,i,h,h2=>by
  show (zCN l i).ev (zy zCJ (.inl default) n) (λr=>(true,r)) (false,.inl default)=_
  unfold zCN Wy.ix;by_cases hi:i<l.length
  ·simp only [Wy.ev_i,Wy.ev_k,Wy.ev_h,Wy.ev_bn,Wy.ev_d,tT,hi];rw [zbd hi,q28,zu (by omega)]
   have ih:=z9F l hl n (i+1) (by omega) (by omega)
   unfold zM5;by_cases h1:0<=(l.getD i default).Type_
   ·by_cases h2:(l.getD i default).Type_<=2
    ·rw [qg h1,qg h2,qd (show ¬ (l.getD i default).Type_<0 by omega),qd (show ¬ (l.getD i default).Type_>2 by omega)]
     exact ih
    ·rw [qg h1,qd h2,qd (show ¬ (l.getD i default).Type_<0 by omega),qg (show (l.getD i default).Type_>2 by omega)]
     rfl
   ·rw [qd h1,qg (show (l.getD i default).Type_<0 by omega)]
    rfl
  ·simp only [Wy.ev_i,Wy.ev_k,Wy.ev_h,Wy.ev_bn,Wy.ev_d,tT,hi,zb2 hi];rfl
theorem z3H (l:yH) (hl:l.length<=1000000):zxA l=(true,zAt l):=by
 have h:=z9F l hl (l.length+Int.toNat (0:Int)+(1:Nat)) 0 (by omega) (by omega)
 rw [show ((0:Nat):Int)=(0:Int) from rfl,qq] at h
 unfold zxA zPI zAt;rw [Wy.fin_bn,h,q7];cases l.all zM5 with
 | false=>rw [Bool.and_false]; rfl
 | true=>
  rw [q23];show (true,decide (Int.ofNat l.length<=(16:Int)))=_;rw [show decide (Int.ofNat l.length<=(16:Int))=decide (l.length<=16) from zud _ 16]
theorem zVC (l:yH) (row:yG) (hl:l.length<=1000000):zFR l row=(true,zjQ l row):=by
 unfold zFR zZ2 zjQ;rw [Wy.fin_i,zj1,zAn];by_cases he:l.length=row.length
 ·have key:=zcs (W:=zKl) (z:=.inl default) l.length (λi=>(l,row,(i:Int),())) (λ_=>()) (λi=>zK6 (l.getD i default).Type_ (row.getD i default)) (.inl false) (.inr ()) (λi hi H K D=>by
    show (zx4 l row i).ev H K D=_;unfold zx4 Wy.ix;have hi':i<row.length:=by omega
    simp only [Wy.ev_i,Wy.ev_k,Wy.ev_h,Wy.ev_bn,Wy.ev_d,tT,hi,hi',zG0,zj1,zK6,zu (show i<4611686018427387904 by omega)]
    cases zrF (row.getD i default) <;>cases decide ((row.getD i default).Kind=(l.getD i default).Type_) <;>rfl) (λH K D=>by
    show (zx4 l row l.length).ev H K D=_;unfold zx4 Wy.ix;simp only [Wy.ev_i,Wy.ev_k,Wy.ev_h,Wy.ev_bn,Wy.ev_d,tT,qr]) (l.length+row.length+Int.toNat (0:Int)+(1:Nat)) (by omega)
  replace key:zVT (l.length+row.length+Int.toNat (0:Int)+(1:Nat)) l row 0=_:=key;rw [qg he,qk,q9,Wy.fin_bn,key];cases zd5 (λi=>zK6 (l.getD i default).Type_ (row.getD i default)) l.length 0 <;>rfl
 ·rw [qd he]; rfl
theorem zbnh:zb8 ⟨default,0⟩=(true,false):=by kernel_rfl
theorem zbnm:zb8 ⟨default,1⟩=(true,false):=by kernel_rfl
theorem zbnK:zb8 ⟨default,2⟩=(true,false):=by kernel_rfl
theorem zbnn (c:Column):zb8 c=(true, !zM5 c):=by
 have hc:zb8 c=zb8 ⟨default,c.Type_⟩:=rfl;rw [hc];unfold zM5;generalize c.Type_=t;by_cases h0:t<0
 ·unfold zb8 zo9 zq8 zDl Wy.ix;rw [Wy.fin_bn,Wy.fin_i,qg h0,qd (show ¬ 0<=t by omega)]
  show (true,((ByteArray.mk #[]).toList==(ByteArray.mk #[]).toList))=_;rw [zDV]; rfl
 ·by_cases h2:t>2
  ·unfold zb8 zo9 zq8 zDl Wy.ix;rw [Wy.fin_bn,Wy.fin_i,Wy.fin_i,qd h0,qg h2,qd (show ¬ t<=2 by omega),Bool.and_false]
   show (true,((ByteArray.mk #[]).toList==(ByteArray.mk #[]).toList))=_;rw [zDV]; rfl
  ·rw [qg (show 0<=t by omega),qg (show t<=2 by omega)]
   have:t=0\/t=1\/t=2:=by omega
   rcases this with rfl | rfl | rfl
   ·exact zbnh
   ·exact zbnm
   ·exact zbnK
theorem zPc (l:yH) (hl:l.length<=1000000):zhY l=(true,zAt l):=by
 have hc:zcB l=(true, !l.all zM5):=by
  unfold zcB ziN;have:zee l=IG (λ(_:Unit) x=>zb8 x) (l.length+(Int.ofNat l.length).toNat +Int.toNat (0:Int)+(1000:Nat)) () l:=rfl
  have e:(!l.all zM5)=l.any λc=> !zM5 c:=by simp [q21]
  rw [e];exact zk5 (this.trans (zLF _ _ _ _ _ (by omega) (λx _=>zbnn x) (by omega)))
 unfold zhY zBb zAt;have el:decide (Int.ofNat l.length<=(16:Int))=decide (l.length<=16):=zud _ 16;rw [Wy.fin_i,Wy.fin_bn,hc,el];cases decide (l.length<=16) <;>cases l.all zM5 <;>rfl
def zCZ (l:yH) (row:yG) (k:Nat):List pair:=(List.range k).map λi=>pair.mk (l.getD i default) (row.getD i default)
theorem z9J (l:yH) (row:yG) (k:Nat):zCZ l row (k+1)=zCZ l row k++[pair.mk (l.getD k default) (row.getD k default)]:=by
 unfold zCZ; rw [List.range_succ,q2g]; rfl
theorem z2o (l:yH) (row:yG) (k:Nat):(zCZ l row k).length=k:=by simp [zCZ]
theorem zbed (l:yH) (row:yG) (he:l.length=row.length) (hl:l.length<=1000000):∀ (n i:Nat),row.length<i+n->i<=row.length->zEC n l row row.length i (zCZ l row i)=(true,zCZ l row row.length)
 | 0,i,h,h2=>by omega
 | n+1,i,h,h2=>by
  show (zEy l row row.length i (zCZ l row i)).ev (zy zEP default n) (λr=>(true,r)) (false,default)=_
  unfold zEy Wy.ix;by_cases hi:i<row.length
  ·have hi':i<l.length:=by omega
   simp only [Wy.ev_i,Wy.ev_k,Wy.ev_h,Wy.ev_bn,Wy.ev_d,tT,hi,hi'];rw [qg (show ((zCZ l row i).length+[pair.mk (l.getD i default) (row.getD i default)].length)*56<=zD from zC0 (by rw [z2o]; simp; omega) (by omega)),q7,zu (by omega), <- z9J]
   exact zbed l row he hl n (i+1) (by omega) (by omega)
  ·have:i=row.length:=by omega
   subst this;simp only [Wy.ev_i,Wy.ev_k,Wy.ev_h,Wy.ev_bn,Wy.ev_d,tT,qr]
theorem zbb7 (l:yH) (row:yG) (p:pair->Bool):∀ k,(zCZ l row k).all p=zd5 (λi=>p (pair.mk (l.getD i default) (row.getD i default))) k 0
 | 0=>rfl
 | k+1=>by
  rw [z9J,q37,zbb7 l row p k,zYT,q1s];simp
theorem z8g (l:yH) (row:yG) (hl:l.length<=1000000):ztd l row=(true,zjQ l row):=by
 unfold ztd zO6 zjQ;rw [Wy.fin_i,zfi,zAn];by_cases he:l.length=row.length
 ·have hz:zAb l row=(true,zCZ l row row.length):=by
   unfold zAb zRs;have key:∀ n,row.length<n->zEC n l row (Int.ofNat row.length) 0 []=(true,zCZ l row row.length):=λn hn=>zbed l row he hl n 0 (by omega) (by omega)
   rw [Wy.fin_bn,key _ (by omega)]; rfl
  have hc:zca (zCZ l row row.length)=(true, !(zCZ l row row.length).all λp=>zK6 p.c.Type_ p.v):=by
   generalize hq:zCZ l row row.length=q;have hql:q.length<=1000000:=by rw [<- hq,z2o]; omega
   unfold zca zgI;have:zdd q=IG (λ(_:Unit) x=>zm0 x) (q.length+(Int.ofNat q.length).toNat +Int.toNat (0:Int)+(1000:Nat)) () q:=rfl
   have e:(!q.all λp=>zK6 p.c.Type_ p.v)=q.any λp=> !zK6 p.c.Type_ p.v:=by simp [q21]
   rw [e]
   exact zk5 (this.trans (zLF _ _ _ _ _ (by omega) (λx _=>by
    show zm0 x=_;unfold zm0 zI2 zK6;simp only [Wy.fin_i,Wy.fin_k,Wy.fin_bn,zAD,q7,zj1];cases zrF x.v <;>cases decide (x.v.Kind=x.c.Type_) <;>rfl) (by omega)))
  rw [qg he,q7,Wy.fin_bn,hz,q7,Wy.fin_bn,hc,zbb7,he];cases zd5 (λi=>zK6 (l.getD i default).Type_ (row.getD i default)) row.length 0 <;>rfl
 ·rw [qd he]; rfl
def zve (l:yG):List TT:=l.map trV
theorem zbcw:∀ {a b:yG},zve a=zve b->a=b
 | [],[],_=>rfl
 | [],_::_,h=>by cases h
 | _::_,[],h=>by cases h
 | x::a,y::b,h=>by
  have h':trV x::zve a=trV y::zve b:=h;injection h' with h1 h2
  rw [z88 h1,zbcw h2]
def ztj (a b:yG):Int:=zbe (.l (zve a)) (.l (zve b))
theorem zbbU (a b:yG):ztj a b=zbx (zve a) (zve b):=by unfold ztj; rw [zbe]
theorem zpX (a b:yG):ztj b a= - ztj a b:=zgm _ _
theorem zLQ (a b:yG):ztj a b=0↔a=b:=⟨λh=>zbcw (TT.l.inj (ztc _ _ h)),λh=>by subst h; exact zD0 _⟩
theorem zQM {x y z:yG} (h1:ztj x y<=0) (h2:ztj y z<=0):ztj x z<=0:=ztY _ _ _ h1 h2
theorem zUM (a b:yG) (ha:a.length<=1000000):zpM a b=(true,ztj a b):=by
 unfold zpM zGR;have e:zcd=CF zkd:=rfl;rw [e,Wy.fin_bn,zSx trV zkd a b ha (λx _ y _=>zC8 x y),zbbU]; rfl
theorem zeN (x y:Row) (hx:x.Values.length<=1000000):zcA x y=(true,ztj x.Values y.Values):=by
 unfold zcA zIq;rw [Wy.fin_bn,zUM _ _ hx]; rfl
theorem zbcd (a b:yG) (ha:a.length<=1000000):∀ (n i:Nat),a.length<i+n->i<=a.length->i<=b.length->
  ∃ r,zxi n a b i=(true,r)/\((r=.inr (a,b)/\zbx (zve (a.drop i)) (zve (b.drop i))=if a.length=b.length then 0 else if a.length<b.length then -1 else 1)\/r=.inl (zbx (zve (a.drop i)) (zve (b.drop i))))
 | 0,i,h,h2,h3=>by omega
 | n+1,i,h,h2,h3=>by
  show ∃ r,(zw8 a b i).ev (λx y=>zxi n x.1 x.2.1 x.2.2.1) (λr=>(true,r)) (false,.inl default)=(true,r)/\_
  unfold zw8 Wy.ix;by_cases hi:i<a.length
  ·by_cases hj:i<b.length
   ·simp only [Wy.ev_i,Wy.ev_k,Wy.ev_h,Wy.ev_bn,Wy.ev_d,tT,hi,hj,ref01_Compare_eq'];rw [zbd hi,zbd hj]
    have ec:zbx (zve (a.getD i default::a.drop (i+1))) (zve (b.getD i default::b.drop (i+1)))=if zbcl (a.getD i default) (b.getD i default)=0 then zbx (zve (a.drop (i+1))) (zve (b.drop (i+1))) else zbcl (a.getD i default) (b.getD i default):=by
     unfold zve zbcl; rw [q1q,q1q,zbx]
    rw [ec,zj1,zu (by omega)]
    by_cases e:zbcl (a.getD i default) (b.getD i default)=0
    ·rw [if_pos e,qg e,qk,q9];exact zbcd a b ha n (i+1) (by omega) (by omega) (by omega)
    ·rw [if_neg e,qd e,q1k,q7];exact ⟨_,rfl,.inr rfl⟩
   ·simp only [Wy.ev_i,Wy.ev_k,Wy.ev_h,Wy.ev_bn,Wy.ev_d,tT,hi,hj];refine ⟨_,rfl,.inl ⟨rfl, ?_⟩⟩;rw [zbd hi,zb2 hj,if_neg (by omega),if_neg (by omega)]
    unfold zve; rw [q1q,List.map_nil,zbx]
  ·simp only [Wy.ev_i,Wy.ev_k,Wy.ev_h,Wy.ev_bn,Wy.ev_d,tT,hi];refine ⟨_,rfl,.inl ⟨rfl, ?_⟩⟩;rw [zb2 hi];by_cases hj:i<b.length
   ·rw [zbd hj,if_neg (by omega),if_pos (by omega)]
    unfold zve; rw [q1q,List.map_nil,zbx]
   ·rw [zb2 hj,if_pos (by omega)]
    unfold zve; rw [List.map_nil,zbx]
theorem zEL (a b:yG) (ha:a.length<=1000000):zlS a b=(true,ztj a b):=by
 obtain ⟨r,h1,h2⟩:=zbcd a b ha (a.length+b.length+Int.toNat (0:Int)+(1:Nat)) 0 (by omega) (by omega) (by omega)
 rw [show ((0:Nat):Int)=(0:Int) from rfl] at h1
 rw [qq,qq, <- zbbU] at h2;unfold zlS zGw;rw [Wy.fin_bn,h1,q7];have hs:∀ b:Bool,ztf b=(true,bif b then -1 else 1):=λb=>by cases b <;>rfl
 rcases h2 with ⟨rfl,h2⟩ | rfl
 ·have hb:(Int.ofNat a.length==Int.ofNat b.length)=decide (a.length=b.length):=by rw [zfi,zAn]
  have hl':decide (Int.ofNat a.length<Int.ofNat b.length)=decide (a.length<b.length):=by simp
  simp only [Wy.fin_i,Wy.fin_k,Wy.fin_bn,isL,getR,q9,hb,hs,q7];rw [h2];by_cases e:a.length=b.length
  ·rw [qg e,if_pos e]; rfl
  ·rw [qd e,if_neg e,q9];by_cases e2:a.length<b.length
   ·rw [if_pos e2];show (true,bif decide (Int.ofNat a.length<Int.ofNat b.length) then (-1:Int) else 1)=_
    rw [hl',qg e2]; rfl
   ·rw [if_neg e2];show (true,bif decide (Int.ofNat a.length<Int.ofNat b.length) then (-1:Int) else 1)=_
    rw [hl',qd e2]; rfl
 ·rfl
theorem zbas (a b:yG) (ha:a.length<=1000000):zFt a b=(true,decide (a=b)):=by
 unfold zFt zYW;rw [Wy.fin_bn,zEL a b ha,q7,Wy.fin_k,zfi];congr 1;rw [decide_eq_decide]; exact zLQ a b
end Go.Proofs.YtoknknbmfmddbaaGreatDoor
/- Which annotations are valid: both sides compute the same. -/
namespace Go.Proofs.YtoknknbmfmddbaaGreatDoor
open Go Go.Ab
def rz (r:RowID):Bool:=r.Table==(0:Int)&&(r.Seq==(0:Int)&&true)
def zrO (V:yB->Bool) (l:yA):Bool:=l.all λa=>V a&& !(a.length==0)
def zEb (V:yB->Bool) (l:yD):Bool:=l.all λw=>V w.Ann&& !(w.Ann.length==0)
def zw2 (r:RowID):Bool:=decide (r.Table≥1)&&decide (r.Seq≥1)
def zHV (p:yB->Bool):yA->Bool
 | [a]=>p a
 | _=>false
def z6A (p:yB->yB->Bool):yA->Bool
 | [a,b]=>p a b
 | _=>false
def zdj (V:yB->Bool) (x:At):Bool:=
 zrO V x.Ag&&
 if x.Kind=0 then plA x&&zw2 x.Row&&(x.Ag.length==0)
 else rz x.Row&&
  if x.Kind=1 then plA x&&z6A (λa b=> !decide (a=b)) x.Ag
  else if x.Kind=2 then plA x&&zHV (λa=> !isC a&& !isU a) x.Ag
  else if x.Kind=3 then plA x&&zHV (λa=> !zuo a) x.Ag
  else if x.Kind=4 then (x.Ag.length==0)&&decide (0<x.Items.length)&&zEb V x.Items&&z0o x.Items&&zyw x.Func x.Items x.Op x.Bd
  else false
def zQ1 (vat:At->Bool) (fs:yC) (k:Nat):Bool:=
 decide (1<=(fs.getD k default).Exp)&& !(((fs.getD k default).At.Kind==3||(fs.getD k default).At.Kind==4)&&(fs.getD k default).Exp != 1)&&
  (decide (k=0)||decide (zbe (zec (fs.getD (k - 1) default).At) (zec (fs.getD k default).At)<0))&&vat (fs.getD k default).At
def okF (vat:At->Bool) (fs:yC):Bool:=zd5 (zQ1 vat fs) fs.length 0
def zFL (vat:At->Bool) (a:yB) (i:Nat):Bool:=
 decide (1<=(a.getD i default).Cf)&&decide ((a.getD i default).Cf<=1152921504606846976)&&
  (decide (i=0)||decide (zbx (zbD (a.getD (i - 1) default).Fs) (zbD (a.getD i default).Fs)<0))&&okF vat (a.getD i default).Fs
def zvm (vat:At->Bool) (a:yB):Bool:=zfN a&&zd5 (zFL vat a) a.length 0
def zbi:Nat->yB->Bool
 | 0,_=>false
 | n+1,a=>zvm (zdj (zbi n)) a
theorem zEJ (r:RowID):zrj r=(true,zw2 r):=by
 unfold zrj zRZ zw2;rw [Wy.fin_i,Wy.fin_k,Wy.fin_k];cases decide (r.Table≥1) <;>rfl
theorem zAr {V:yB->Bool} {x:At} (h:zdj V x=true):0<=x.Kind/\x.Kind<=4:=by
 unfold zdj at h;by_cases h0:x.Kind=0
 ·omega
 by_cases h1:x.Kind=1
 ·omega
 by_cases h2:x.Kind=2
 ·omega
 by_cases h3:x.Kind=3
 ·omega
 by_cases h4:x.Kind=4
 ·omega
 simp [h0,h1,h2,h3,h4] at h
theorem ztE (l k:Nat):((Int.ofNat l)==(k:Int))=(l==k):=by
 rw [zfi,z3g]; congr 1; simp; omega
section
variable (V:yB->Bool) (gW:yD->Bool×Bool) (gA:yA->Bool×Bool) (c1:yB->Bool×Bool) (c2:Wd->Bool×Bool)
theorem z89 (x:At) {d:Nat} (hx:zdl (zq d) x) (hd:d<=99) (hA:gA x.Ag=(true, !zrO V x.Ag)) (hW:gW x.Items=(true, !zEb V x.Items)):
  zjV gA c1 gW c2 x=(true,zdj V x):=by
 have hS:=zbeR x.Items hx.1.2.1 (λw hw=>(hx.2.2 w hw).2) hd
 have hF:=z5p x.Func x.Items x.Op x.Bd hx.1.2.1;have hE:∀ a∈x.Ag,∀ b,zgx a b=(true,decide (a=b)):=λa ha b=>zyH (hx.2.1 a ha) (by omega) b
 have hC:∀ a∈x.Ag,zfm a=(true,zuo a):=λa ha=>zRJ a (by
  have:=hx.2.1 a ha;cases d with
  | zero=>exact this.elim
  | succ d=>have:=this.1; omega)
 obtain ⟨k,r,l,f,its,o,b⟩:=x;simp only at hA hW hS hF hE hC;unfold zjV zcj zdj plA Wy.ix;simp only [zEJ,hA,hW,hS,hF,Wy.fin_i,Wy.fin_k,Wy.fin_bn,q7]
 rw [show (b.Kind==(0:Int)&&(b.Int==(0:Int)&&(b.Text.toList==(ByteArray.mk #[]).toList&&true)))=bz b from rfl,
  show (r.Table==(0:Int)&&(r.Seq==(0:Int)&&true))=rz r from rfl,
  show (Int.ofNat its.length != 0)= !(its.length==0) from congrArg not (ztE its.length 0),show (f != 0)= !(f==0) from rfl,show (o != 0)= !(o==0) from rfl]
 generalize zrO V l=A at *;generalize zEb V its=W at *;generalize bz b=B at *;generalize (f==0)=F at *;generalize (o==0)=O at *;generalize rz r=R at *;generalize zw2 r=RO at *;generalize z0o its=S at *;generalize zyw f its o b=K at *;have hgt:decide (Int.ofNat its.length>0)=decide (0<its.length):=zjR its.length 0;rw [hgt];generalize (its.length==0)=I at *;generalize decide (0<its.length)=J at *;by_cases h0:k=0
 ·subst h0;simp only [ztE,show ((Int.ofNat l.length)==(0:Int))=(l.length==0) from ztE l.length 0]
  generalize (l.length==0)=L;cases F <;>cases I <;>cases O <;>cases B <;>cases A <;>cases RO <;>rfl
 by_cases h1:k=1
 ·subst h1
  match l,hE with
  | [],_=>cases F <;>cases I <;>cases O <;>cases B <;>cases A <;>cases R <;>rfl
  | [u],_=>cases F <;>cases I <;>cases O <;>cases B <;>cases A <;>cases R <;>rfl
  | [u,v],hE=>
   have e:=hE u (by simp) v
   simp only [List.getD,qc,qv,Int.toNat_zero,q1x,q2r,Option.getD,show Int.toNat 1=1 from rfl,z6A]
   simp only [e];generalize decide (u=v)=E;cases F <;>cases I <;>cases O <;>cases B <;>cases A <;>cases R <;>rfl
  | u::v::w::l,_=>
   have e:((Int.ofNat (u::v::w::l).length)==(2:Int))=false:=by rw [q22]; simp; omega
   simp only [e];cases F <;>cases I <;>cases O <;>cases B <;>cases A <;>cases R <;>rfl
 by_cases h2:k=2
 ·subst h2
  match l with
  | []=>cases F <;>cases I <;>cases O <;>cases B <;>cases A <;>cases R <;>rfl
  | [u]=>
   simp only [List.getD,qc,qv,Int.toNat_zero,q1x,Option.getD,zHV,zV2,z9x];generalize isC u=E;generalize isU u=E';cases F <;>cases I <;>cases O <;>cases B <;>cases A <;>cases R <;>cases E <;>cases E' <;>rfl
  | u::v::l=>
   simp only [zNr];cases F <;>cases I <;>cases O <;>cases B <;>cases A <;>cases R <;>rfl
 by_cases h3:k=3
 ·subst h3
  match l,hC with
  | [],_=>cases F <;>cases I <;>cases O <;>cases B <;>cases A <;>cases R <;>rfl
  | [u],hC=>
   have e:=hC u (by simp)
   simp only [List.getD,qc,qv,Int.toNat_zero,q1x,Option.getD,zHV];simp only [e];generalize zuo u=E;cases F <;>cases I <;>cases O <;>cases B <;>cases A <;>cases R <;>cases E <;>rfl
  | u::v::l,_=>
   simp only [zNr];cases F <;>cases I <;>cases O <;>cases B <;>cases A <;>cases R <;>rfl
 by_cases h4:k=4
 ·subst h4;simp only [show ((Int.ofNat l.length)==(0:Int))=(l.length==0) from ztE l.length 0]
  generalize (l.length==0)=L;cases A <;>cases W <;>cases L <;>cases J <;>cases S <;>cases K <;>cases R <;>rfl
 simp only [zfi,h0,h1,h2,h3,h4,decide_false,if_false,q9];cases F <;>cases I <;>cases O <;>cases B <;>cases A <;>cases R <;>rfl
end
section
variable (V:yB->Bool) (g:yB->Bool×Bool)
theorem zbnI (x:At) (hl:x.Ag.length<=1000000) (hg:∀ a∈x.Ag,g a=(true,V a)) (n:Nat) (hn:x.Ag.length<n):zxe g n 0 x=(true,bif zrO V x.Ag then .inr x else .inl false):=by
 have:=zcs (W:=zwG g) (z:=.inl default) x.Ag.length (λi=>((),(i:Int),())) (λ_=>(x,())) (λi=>(λa:yB=>V a&& !(a.length==0)) (x.Ag.getD i default)) (.inl false) (.inr x)
  (λi hi H K D=>by
   show (zlA g i x).ev H K D=_;unfold zlA Wy.ix;have hL:decide ((i:Int)<Int.ofNat x.Ag.length)=true:=by simp [hi]
   simp only [Wy.ev_i,Wy.ev_k,Wy.ev_h,Wy.ev_bn,Wy.ev_d,hL,ze4,q13,q7,qt,hg _ (zm hi)];rw [zu (by omega),show (Int.ofNat (x.Ag.getD i default).length==(0:Int))=((x.Ag.getD i default).length==0) from ztE _ 0]
   cases V (x.Ag.getD i default) <;>cases ((x.Ag.getD i default).length==0) <;>rfl)
  (λH K D=>by
   show (zlA g x.Ag.length x).ev H K D=_;unfold zlA Wy.ix;have hL:decide ((x.Ag.length:Int)<Int.ofNat x.Ag.length)=false:=by simp
   simp only [Wy.ev_i,Wy.ev_k,hL,q9]) n hn
 rw [zz3 (λa:yB=>V a&& !(a.length==0))] at this
 exact this
theorem zbbE {τ:Type} [Inhabited τ] (l:List τ) (i:Nat) (h:i<l.length):List.take 1 (List.drop i l)=[l.getD i default]:=by
 rw [zbd h]; rfl
theorem zbjO (x y:TT):zbx [x] [y]=zbe x y:=by
 simp only [zbx];split
 ·rename_i h; exact h.symm
 ·rfl
theorem zbmn (x:At) {d:Nat} (hx:zdl (zq d) x) (hd:d<=99) (hg:∀ a∈x.Items,g a.Ann=(true,V a.Ann)) (n:Nat) (hn:x.Items.length<n):zDJ g n 0 x=(true,bif zEb V x.Items&&z0o x.Items then .inr () else .inl false):=by
 have hl:x.Items.length<=1000000:=hx.1.2.1
 have:=zcs (W:=zvp g) (z:=.inl default) x.Items.length (λi=>((),(i:Int),())) (λ_=>(x,())) (λi=>(λw:Wd=>V w.Ann&& !(w.Ann.length==0)) (x.Items.getD i default)&&zVp x.Items i) (.inl false) (.inr ())
  (λi hi H K D=>by
   show (zkw g i x).ev H K D=_;unfold zkw Wy.ix;have hL:decide ((i:Int)<Int.ofNat x.Items.length)=true:=by simp [hi]
   simp only [Wy.ev_i,Wy.ev_k,Wy.ev_h,Wy.ev_bn,Wy.ev_d,hL,ze4,q13,q7,qt,hg _ (zm hi)];rw [zu (by omega),show (Int.ofNat (x.Items.getD i default).Ann.length==(0:Int))=((x.Items.getD i default).Ann.length==0) from ztE _ 0]
   cases V (x.Items.getD i default).Ann <;>cases ((x.Items.getD i default).Ann.length==0) <;>try rfl
   simp only [q7,q9,qk,q1k,q13,q1j];cases i with
   | zero=>rfl
   | succ i=>
    have hi':i<x.Items.length:=by omega
    have hw:IntKind.i64.wrap (((i+1:Nat):Int) - 1)=(i:Int):=by rw [zAe (by omega) (by omega)]; rfl
    have e1:(decide ((0:Int)<=(i:Int))&&decide ((i:Int)<=((i+1:Nat):Int))&&decide (((i+1:Nat):Int)<=Int.ofNat x.Items.length))=true:=by
     simp; try omega
    have e2:(decide (((i+1:Nat):Int)<=((i+1+1:Nat):Int))&&decide (((i+1+1:Nat):Int)<=Int.ofNat x.Items.length))=true:=by
     simp; try omega
    have e3:decide (((i+1:Nat):Int)>0)=true:=by simp; try omega
    simp only [hw,e1,e2,e3,q7,q1j,qt,show i+1 - i=1 by omega,show i+1+1 - (i+1)=1 by omega,zbbE _ _ hi,zbbE _ _ hi']
    rw [zD3 (d:=d) (by simp) (λw hw=>by
     rw [qj] at hw; subst hw; exact (hx.2.2 _ (zm hi')).2) hd,zm8,zm8]
    simp only [List.map,zbjO,q7,zVp,show i+1 - 1=i from rfl]
    have e4:decide (i+1=0)=false:=by simp
    rw [e4,Bool.false_or];generalize zbe (zbf (x.Items.getD i default)) (zbf (x.Items.getD (i+1) default))=z;by_cases hz:z>0
    ·have:¬ z<=0:=by omega
     simp only [hz,this,decide_true,decide_false,q7,q9]
    ·have:z<=0:=by omega
     simp only [hz,this,decide_true,decide_false,q7,q9])
  (λH K D=>by
   show (zkw g x.Items.length x).ev H K D=_;unfold zkw Wy.ix;have hL:decide ((x.Items.length:Int)<Int.ofNat x.Items.length)=false:=by simp
   simp only [Wy.ev_i,Wy.ev_k,hL,q9]) n hn
 rw [zbdH (λi=>(λw:Wd=>V w.Ann&& !(w.Ann.length==0)) (x.Items.getD i default)),zz3 (λw:Wd=>V w.Ann&& !(w.Ann.length==0))] at this
 exact this
theorem z0N {A ρ:Type} (s:A) (k:A->Wy0 ρ) (z:ρ):(Wy.bn (true,s) k).fin z=(k s).fin z:=rfl
theorem z5v (x:At) {d:Nat} (hx:zdl (zq d) x) (hd:d<=99) (h10:x.Items.length<=1024) (hV:∀ a,V a=true->isB a=isU a) (hgA:∀ a∈x.Ag,g a=(true,V a)) (hgI:∀ a∈x.Items,g a.Ann=(true,V a.Ann)):
  zpp g x=(true,zdj V x):=by
 have hS:=λn hn=>zbmn V g x hx hd hgI n hn
 have hA:=λn hn=>zbnI V g x hx.1.1 hgA n hn
 have hF:=zbcH x.Func x.Items x.Op x.Bd hx.1.2.1;have hE:∀ a∈x.Ag,∀ b,zp1 a b=(true,decide (a=b)):=λa ha b=>zCw (hx.2.1 a ha) (by omega) b
 have hC:∀ a∈x.Ag,zi3 a=(true,zuo a):=λa ha=>zpd a (by
  have:=hx.2.1 a ha;cases d with
  | zero=>exact this.elim
  | succ d=>have:=this.1; omega)
 have hP:=zbi6 x;unfold zpp zGD zdj Wy.ix At.et;obtain ⟨s,hs1,hs2⟩:∃ s,zxe g (Int.toNat (0:Int)+x.Ag.length+x.Items.length+(1:Nat)) 0 x=(true,s)/\s=bif zrO V x.Ag then .inr x else .inl false:=⟨_,hA _ (by omega),rfl⟩
 rw [At.eta,hP,hs1];simp only [Wy.fin_i,Wy.fin_k,z0N];simp only [Wy.fin_i,Wy.fin_k,Wy.fin_bn,q7];rw [show (x.Row.Table==(0:Int)&&(x.Row.Seq==(0:Int)&&true))=rz x.Row from rfl]
 have b0:(x.Kind==(0:Int))=decide (x.Kind=0):=zfi _ _;have b1:(x.Kind==(1:Int))=decide (x.Kind=1):=zfi _ _;have b2:(x.Kind==(2:Int))=decide (x.Kind=2):=zfi _ _;have b3:(x.Kind==(3:Int))=decide (x.Kind=3):=zfi _ _;have b4:(x.Kind==(4:Int))=decide (x.Kind=4):=zfi _ _;by_cases h0:x.Kind=0
 ·rw [b0];simp only [h0,decide_true,q7,if_true];rw [show (Int.ofNat x.Ag.length==(0:Int))=(x.Ag.length==0) from ztE _ 0]
  unfold zw2
  match hl:x.Ag with
  | []=>cases decide (x.Row.Table≥1) <;>cases decide (x.Row.Seq≥1) <;>cases plA x <;>rfl
  | u::l=>cases decide (x.Row.Table≥1) <;>cases decide (x.Row.Seq≥1) <;>cases plA x <;>cases zrO V (u::l) <;>rfl
 rw [b0];simp only [h0,decide_false,q9,if_false];cases hA:zrO V x.Ag with
 | false=>rw [hs2,hA]; cases rz x.Row <;>rfl
 | true=>
 rw [hA,q7] at hs2;have hy:getR s=x:=by rw [hs2]; rfl
 have hy2:isL s=false:=by rw [hs2]; rfl
 rw [hy2];generalize getR s=y at hy ⊢;subst hy;cases rz y.Row with
 | false=>rfl
 | true=>
 simp only [qk,q9,q7,isL,getR,q1j,At.eta,hP,hF,b1,b2,b3,b4];by_cases h1:y.Kind=1
 ·simp only [h1,decide_true,q7,if_true]
  match hl:y.Ag with
  | []=>cases plA y <;>rfl
  | [u]=>cases plA y <;>rfl
  | [u,v]=>
   have e:=hE u (by rw [hl]; simp) v
   simp only [List.getD,qc,qv,Int.toNat_zero,q1x,q2r,Option.getD,show Int.toNat 1=1 from rfl,z6A]
   simp only [e];generalize decide (u=v)=E;cases plA y <;>rfl
  | u::v::w::l=>
   have e:((Int.ofNat (u::v::w::l).length)==(2:Int))=false:=by rw [q22]; simp; omega
   simp only [e];cases plA y <;>rfl
 simp only [h1,decide_false,q9,if_false];by_cases h2:y.Kind=2
 ·simp only [h2,decide_true,q7,if_true]
  match hl:y.Ag with
  | []=>cases plA y <;>rfl
  | [u]=>
   have e:=hC u (by rw [hl]; simp)
   have eV:V u=true:=by
    rw [hl] at hA;unfold zrO at hA;simp at hA;exact hA.1
   simp only [List.getD,qc,qv,Int.toNat_zero,q1x,Option.getD,zHV,zFU,e,hV u eV]
   match u with
   | []=>cases plA y <;>rfl
   | [t]=>
    have e1:zuo [t]=(t.Fs.length==0):=by simp [zuo]
    have e2:isC [t]=(t.Fs.length==0):=rfl;rw [e1,e2];cases plA y <;>cases (t.Fs.length==0) <;>cases isU [t] <;>rfl
   | t::s::r=>
    simp only [zNr];cases plA y <;>rfl
  | u::v::l=>
   simp only [zNr];cases plA y <;>rfl
 simp only [h2,decide_false,q9,if_false];by_cases h3:y.Kind=3
 ·simp only [h3,decide_true,q7,if_true]
  match hl:y.Ag with
  | []=>cases plA y <;>rfl
  | [u]=>
   have e:=hC u (by rw [hl]; simp)
   simp only [List.getD,qc,qv,Int.toNat_zero,q1x,Option.getD,zHV];simp only [e];cases plA y <;>cases zuo u <;>rfl
  | u::v::l=>
   simp only [zNr];cases plA y <;>rfl
 simp only [h3,decide_false,q9,if_false];by_cases h4:y.Kind=4
 ·have e10:decide (Int.ofNat y.Items.length>(1024:Int))=false:=by simp; omega
  rw [hS _ (by omega)]
  rw [e10];simp only [h4,decide_true,q7,if_true,q9];rw [show (Int.ofNat y.Ag.length != (0:Int))= !(y.Ag.length==0) from congrArg not (ztE y.Ag.length 0),show (Int.ofNat y.Items.length==(0:Int))=(y.Items.length==0) from ztE y.Items.length 0]
  have e11:decide (0<y.Items.length)= !(y.Items.length==0):=by
   rw [z3g];by_cases h:y.Items.length=0
   ·simp [h]
   ·have:0<y.Items.length:=by omega
    simp [h,this]
  rw [e11];cases (y.Ag.length==0) <;>cases (y.Items.length==0) <;>cases zyw y.Func y.Items y.Op y.Bd <;>cases zEb V y.Items <;>cases z0o y.Items <;>rfl
 simp only [h4,decide_false,q9,if_false]
end
section
variable (V:yB->Bool) (vat:At->Bool)
theorem V_9 (g:At->Bool×Bool) (a t10:yB) (t11 t12:Int) (t:Term) {d:Nat} (ht:zg2 (zq d) t.Fs) (hd:d<=99) (hg:∀ f∈t.Fs,g f.At=(true,vat f.At)) (n:Nat) (hn:t.Fs.length<n):
  zvV g n a t10 t11 t12 t.Fs t.Fs.length 0 t=(true,bif okF vat t.Fs then .inr (a,t10,t11,t12) else .inl false):=by
 have hl:=ht.1
 exact zcs (W:=zvM g) (z:=.inl default) t.Fs.length (λk=>(a,(),t10,t11,t12,t.Fs,(t.Fs.length:Int),(k:Int),())) (λ_=>(t,())) (zQ1 vat t.Fs) (.inl false) (.inr (a,t10,t11,t12))
  (λk hk H K D=>by
   show (zkC g a t10 t11 t12 t.Fs t.Fs.length k t).ev H K D=_;unfold zkC zQ1 Wy.ix At.et
   have hgt:decide ((k:Int)>0)= !decide (k=0):=by
    by_cases h:k=0
    ·subst h; rfl
    ·have:0<k:=by omega
     simp [h,this]
   simp only [At.eta,Wy.ev_i,Wy.ev_k,Wy.ev_h,Wy.ev_bn,Wy.ev_d,tT,hk,z73,hg _ (zm hk),hgt];rw [zu (by omega)]
   have e1:decide ((t.Fs.getD k default).Exp<1)= !decide (1<=(t.Fs.getD k default).Exp):=by
    by_cases h:1<=(t.Fs.getD k default).Exp
    ·have:¬ (t.Fs.getD k default).Exp<1:=by omega
     simp only [h,this,decide_true,decide_false,qk]
    ·have:(t.Fs.getD k default).Exp<1:=by omega
     simp only [h,this,decide_true,decide_false,q1k]
   rw [e1];generalize decide (1<=(t.Fs.getD k default).Exp)=E1;generalize ((t.Fs.getD k default).Exp != 1)=E2;generalize ((t.Fs.getD k default).At.Kind==3||(t.Fs.getD k default).At.Kind==4)=E3;by_cases h0:k=0
   ·simp only [h0,decide_true,qk,q9,Bool.true_or,q23];cases E1 <;>cases E2 <;>cases E3 <;>cases vat (t.Fs.getD 0 default).At <;>rfl
   ·have hp:IntKind.i64.wrap ((k:Int) - 1)=((k - 1:Nat):Int):=zAe (by omega) (by omega)
    have hk':k - 1<t.Fs.length:=by omega
    have hfx:zdl (zq d) (t.Fs.getD (k - 1) default).At:=ht.2 _ (zm hk')
    have e2:∀ z:Int,decide (z≥0)= !decide (z<0):=λz=>by
     by_cases h:z<0
     ·have:¬ z≥0:=by omega
      simp [h,this]
     ·have:z≥0:=by omega
      simp [h,this]
    simp only [h0,hp,tT,hk',zxG hfx hd,e2,Bool.false_or];generalize decide (zbe (zec (t.Fs.getD (k - 1) default).At) (zec (t.Fs.getD k default).At)<0)=E4;cases E1 <;>cases E2 <;>cases E3 <;>cases E4 <;>cases vat (t.Fs.getD k default).At <;>rfl)
  (λH K D=>by
   show (zkC g a t10 t11 t12 t.Fs t.Fs.length t.Fs.length t).ev H K D=_;unfold zkC Wy.ix At.et;simp only [Wy.ev_i,Wy.ev_k,tT,qr]) n hn
theorem V_4 (g:At->Bool×Bool) (a:yB) {d:Nat} (h:zq (d+1) a) (hd:d<=99) (hg:∀ t∈a,∀ f∈t.Fs,g f.At=(true,vat f.At)) (n:Nat) (hn:a.length<n):
  zD8 g n a a a.length 0=(true,bif zd5 (zFL vat a) a.length 0 then .inr () else .inl false):=by
 have hl:=h.1
 exact zcs (W:=zvU g) (z:=.inl default) a.length (λk=>(a,a,(a.length:Int),(k:Int),())) (λ_=>()) (zFL vat a) (.inl false) (.inr ())
  (λk hk H K D=>by
   show (zkx g a a a.length k).ev H K D=_;unfold zkx zFL Wy.ix;have ht:=h.2 _ (zm hk)
   have hgt:decide ((k:Int)>0)= !decide (k=0):=by
    by_cases h:k=0
    ·subst h; rfl
    ·have:0<k:=by omega
     simp [h,this]
   simp only [At.eta,Wy.ev_i,Wy.ev_k,Wy.ev_h,Wy.ev_bn,Wy.ev_d,tT,hk,hgt];rw [V_9 vat g a a a.length k _ ht hd (hg _ (zm hk)) _ (by omega)]
   have e1:decide ((a.getD k default).Cf<1)= !decide (1<=(a.getD k default).Cf):=by
    by_cases h:1<=(a.getD k default).Cf
    ·have:¬ (a.getD k default).Cf<1:=by omega
     simp only [h,this,decide_true,decide_false,qk]
    ·have:(a.getD k default).Cf<1:=by omega
     simp only [h,this,decide_true,decide_false,q1k]
   have e3:decide ((a.getD k default).Cf>1152921504606846976)= !decide ((a.getD k default).Cf<=1152921504606846976):=by
    by_cases h:(a.getD k default).Cf<=1152921504606846976
    ·have:¬ (a.getD k default).Cf>1152921504606846976:=by omega
     simp only [h,this,decide_true,decide_false,qk]
    ·have:(a.getD k default).Cf>1152921504606846976:=by omega
     simp only [h,this,decide_true,decide_false,q1k]
   rw [e1,e3];generalize decide (1<=(a.getD k default).Cf)=E1;generalize decide ((a.getD k default).Cf<=1152921504606846976)=E2;by_cases h0:k=0
   ·subst h0;simp only [decide_true,qk,q9,Bool.true_or,q23];cases okF vat (a.getD 0 default).Fs <;>cases E1 <;>cases E2 <;>try rfl
   ·have hp:IntKind.i64.wrap ((k:Int) - 1)=((k - 1:Nat):Int):=zAe (by omega) (by omega)
    have hk':k - 1<a.length:=by omega
    have hfx:zg2 (zq d) (a.getD (k - 1) default).Fs:=h.2 _ (zm hk')
    have e2:∀ z:Int,decide (z≥0)= !decide (z<0):=λz=>by
     by_cases h:z<0
     ·have:¬ z≥0:=by omega
      simp [h,this]
     ·have:z≥0:=by omega
      simp [h,this]
    simp only [h0,hp,tT,hk',zxW hfx hd,e2,Bool.false_or];generalize decide (zbx (zbD (a.getD (k - 1) default).Fs) (zbD (a.getD k default).Fs)<0)=E4;cases okF vat (a.getD k default).Fs <;>cases E1 <;>cases E2 <;>cases E4 <;>try rfl
    simp only [q7,q9,qk,isL,getR,q13];rw [zu (by omega),qd (show ¬ ((k - 1:Nat):Int)<0 by omega)]; rfl)
  (λH K D=>by
   show (zkx g a a a.length a.length).ev H K D=_;unfold zkx Wy.ix;simp only [Wy.ev_i,Wy.ev_k,tT,qr]) n hn
theorem zbgT (g:At->Bool×Bool) (a:yB) {d:Nat} (h:zq (d+1) a) (hd:d<=99) (hs:zO a<=4611686018427387904) (hg:∀ t∈a,∀ f∈t.Fs,g f.At=(true,vat f.At)):znD g a=(true,zvm vat a):=by
 unfold znD zE5 zvm;have:=V_4 vat g a h hd hg (a.length+a.length+(Int.ofNat a.length).toNat +Int.toNat (0:Int)+(1:Nat)) (by omega)
 rw [show Int.ofNat a.length=(a.length:Int) from rfl] at *
 simp only [Wy.fin_i,Wy.fin_k,Wy.fin_bn,z91 h (by omega) hs,this,q7]
 cases zfN a <;>cases zd5 (zFL vat a) a.length 0 <;>rfl
theorem zbnp (g:At->Bool×Bool) (a:yB) (i:Int) (t:Term) {d:Nat} (ht:zg2 (zq d) t.Fs) (hd:d<=99) (hg:∀ f∈t.Fs,g f.At=(true,vat f.At)) (hk:∀ x,vat x=true->0<=x.Kind/\x.Kind<=4) (n:Nat) (hn:t.Fs.length<n):
  zBN g n a i 0 t=(true,bif okF vat t.Fs then .inr (a,i) else .inl false):=by
 have hl:=ht.1
 exact zcs (W:=zBO g) (z:=.inl default) t.Fs.length (λk=>(a,i,(),(k:Int),())) (λ_=>(t,())) (zQ1 vat t.Fs) (.inl false) (.inr (a,i))
  (λk hk1 H K D=>by
   show (zpz g a i k t).ev H K D=_;unfold zpz zQ1 Wy.ix At.et
   have hgt:decide ((k:Int)>0)= !decide (k=0):=by
    by_cases h:k=0
    ·subst h; rfl
    ·have:0<k:=by omega
     simp [h,this]
   simp only [At.eta,Wy.ev_i,Wy.ev_k,Wy.ev_h,Wy.ev_bn,Wy.ev_d,tT,hk1,hg _ (zm hk1),hgt];rw [zu (by omega)]
   have hk2:=hk (t.Fs.getD k default).At
   have e1:decide ((t.Fs.getD k default).Exp<1)= !decide (1<=(t.Fs.getD k default).Exp):=by
    by_cases h:1<=(t.Fs.getD k default).Exp
    ·have:¬ (t.Fs.getD k default).Exp<1:=by omega
     simp only [h,this,decide_true,decide_false,qk]
    ·have:(t.Fs.getD k default).Exp<1:=by omega
     simp only [h,this,decide_true,decide_false,q1k]
   rw [e1];by_cases hx1:1<=(t.Fs.getD k default).Exp
   rotate_left
   ·simp only [hx1,decide_false,q1k,q7,Bool.false_and,q9]
   cases hv:vat (t.Fs.getD k default).At with
   | false=>
    rw [Bool.and_false];cases decide (1<=(t.Fs.getD k default).Exp) <;>cases decide ((t.Fs.getD k default).Exp>1) <;>cases decide ((t.Fs.getD k default).At.Kind≥3) <;>rfl
   | true=>
   obtain ⟨k1,k2⟩:=hk2 hv
   have e5:((t.Fs.getD k default).At.Kind==3||(t.Fs.getD k default).At.Kind==4)=decide ((t.Fs.getD k default).At.Kind≥3):=by
    rw [zfi,zfi, <- Bool.decide_or];congr 1;apply propext; omega
   have e6:((t.Fs.getD k default).Exp != 1)=decide ((t.Fs.getD k default).Exp>1):=by
    rw [zj1, <- decide_not];congr 1;apply propext; omega
   rw [e5,e6];simp only [hx1,decide_true,qk,q9,q1j];generalize decide ((t.Fs.getD k default).Exp>1)=E2;generalize decide ((t.Fs.getD k default).At.Kind≥3)=E3;by_cases h0:k=0
   ·simp only [h0,decide_true,qk,q9,Bool.true_or,q23];cases E2 <;>cases E3 <;>rfl
   ·have hp:IntKind.i64.wrap ((k:Int) - 1)=((k - 1:Nat):Int):=zAe (by omega) (by omega)
    have hk':k - 1<t.Fs.length:=by omega
    have hfx:zdl (zq d) (t.Fs.getD (k - 1) default).At:=ht.2 _ (zm hk')
    have e2:∀ z:Int,decide (z≥0)= !decide (z<0):=λz=>by
     by_cases h:z<0
     ·have:¬ z≥0:=by omega
      simp [h,this]
     ·have:z≥0:=by omega
      simp [h,this]
    simp only [h0,hp,tT,hk',zxd hfx hd,e2,Bool.false_or];generalize decide (zbe (zec (t.Fs.getD (k - 1) default).At) (zec (t.Fs.getD k default).At)<0)=E4;cases E2 <;>cases E3 <;>cases E4 <;>rfl)
  (λH K D=>by
   show (zpz g a i t.Fs.length t).ev H K D=_;unfold zpz Wy.ix At.et;simp only [Wy.ev_i,Wy.ev_k,tT,qr]) n hn
theorem zbn7 (g:At->Bool×Bool) (a:yB) {d:Nat} (h:zq (d+1) a) (hd:d<=99) (hg:∀ t∈a,∀ f∈t.Fs,g f.At=(true,vat f.At)) (hk:∀ x,vat x=true->0<=x.Kind/\x.Kind<=4) (n:Nat) (hn:a.length<n):
  zNH g n a 0=(true,bif zd5 (zFL vat a) a.length 0 then .inr () else .inl false):=by
 have hl:=h.1
 exact zcs (W:=zC3 g) (z:=.inl default) a.length (λk=>(a,(k:Int),())) (λ_=>()) (zFL vat a) (.inl false) (.inr ())
  (λk hk1 H K D=>by
   show (zrx g a k).ev H K D=_;unfold zrx zFL Wy.ix;have ht:=h.2 _ (zm hk1)
   have hgt:decide ((k:Int)>0)= !decide (k=0):=by
    by_cases h:k=0
    ·subst h; rfl
    ·have:0<k:=by omega
     simp [h,this]
   simp only [At.eta,Wy.ev_i,Wy.ev_k,Wy.ev_h,Wy.ev_bn,Wy.ev_d,tT,hk1,hgt];rw [zbnp vat g a k _ ht hd (hg _ (zm hk1)) hk _ (by omega)]
   have e1:decide ((a.getD k default).Cf<1)= !decide (1<=(a.getD k default).Cf):=by
    by_cases h:1<=(a.getD k default).Cf
    ·have:¬ (a.getD k default).Cf<1:=by omega
     simp only [h,this,decide_true,decide_false,qk]
    ·have:(a.getD k default).Cf<1:=by omega
     simp only [h,this,decide_true,decide_false,q1k]
   have e3:decide ((a.getD k default).Cf>1152921504606846976)= !decide ((a.getD k default).Cf<=1152921504606846976):=by
    by_cases h:(a.getD k default).Cf<=1152921504606846976
    ·have:¬ (a.getD k default).Cf>1152921504606846976:=by omega
     simp only [h,this,decide_true,decide_false,qk]
    ·have:(a.getD k default).Cf>1152921504606846976:=by omega
     simp only [h,this,decide_true,decide_false,q1k]
   rw [e1,e3];generalize decide (1<=(a.getD k default).Cf)=E1;generalize decide ((a.getD k default).Cf<=1152921504606846976)=E2;by_cases h0:k=0
   ·subst h0;simp only [decide_true,qk,q9,Bool.true_or,q23];cases okF vat (a.getD 0 default).Fs <;>cases E1 <;>cases E2 <;>try rfl
   ·have hp:IntKind.i64.wrap ((k:Int) - 1)=((k - 1:Nat):Int):=zAe (by omega) (by omega)
    have hk':k - 1<a.length:=by omega
    have hfx:zg2 (zq d) (a.getD (k - 1) default).Fs:=h.2 _ (zm hk')
    have e2:∀ z:Int,decide (z≥0)= !decide (z<0):=λz=>by
     by_cases h:z<0
     ·have:¬ z≥0:=by omega
      simp [h,this]
     ·have:z≥0:=by omega
      simp [h,this]
    simp only [h0,hp,tT,hk',zsN hfx hd,e2,Bool.false_or];generalize decide (zbx (zbD (a.getD (k - 1) default).Fs) (zbD (a.getD k default).Fs)<0)=E4;cases okF vat (a.getD k default).Fs <;>cases E1 <;>cases E2 <;>cases E4 <;>try rfl
    simp only [q7,q9,qk,isL,getR,q13];rw [zu (by omega),qd (show ¬ ((k - 1:Nat):Int)<0 by omega)]; rfl)
  (λH K D=>by
   show (zrx g a a.length).ev H K D=_;unfold zrx Wy.ix;simp only [Wy.ev_i,Wy.ev_k,tT,qr]) n hn
theorem zbej (g:At->Bool×Bool) (a:yB) {d:Nat} (h:zq (d+1) a) (hd:d<=99) (hs:zO a<=4611686018427387904) (hg:zfN a=true->∀ t∈a,∀ f∈t.Fs,g f.At=(true,vat f.At)) (hk:∀ x,vat x=true->0<=x.Kind/\x.Kind<=4):zx2 g a=(true,zvm vat a):=by
 unfold zx2 zO7 zvm;rw [Wy.fin_bn,zbe8 h (by omega) hs]
 cases hw:zfN a with
 | false=>rfl
 | true=>
  have:=zbn7 vat g a h hd (hg hw) hk ((a.length+Int.toNat (0:Int)+(1:Nat))+zbP a) (by omega)
  simp only [Wy.fin_i,Wy.fin_k,Wy.fin_bn,this,q7];cases zd5 (zFL vat a) a.length 0 <;>rfl
end
theorem z2t {l:yA} {a:yB} (h:a∈l):zO a<=zfn l:=by
 induction l with
 | nil=>cases h
 | cons b r ih=>
  rw [zfc];rcases q8.1 h with rfl | h
  ·omega
  ·have:=ih h; omega
theorem zYS {l:yD} {w:Wd} (h:w∈l):zO w.Ann<=zdm l:=by
 induction l with
 | nil=>cases h
 | cons b r ih=>
  rw [ziE];rcases q8.1 h with rfl | h
  ·omega
  ·have:=ih h; omega
theorem zNq {m:Nat} {a:yB} (h:zbi m a=true):isB a=isU a:=by
 cases m with
 | zero=>cases h
 | succ m=>
 match a with
 | []=>rfl
 | [t]=>
  simp only [zbi,zvm,qa] at h;have h1:=zdU.1 h.2 0 (by omega) (by simp)
  simp only [zFL,qa] at h1;have h2:=h1.2;obtain ⟨c,fs⟩:=t
  match fs with
  | []=>rfl
  | [f]=>
   have h3:=zdU.1 h2 0 (by omega) (by simp)
   simp only [zQ1,qa] at h3;have h4:=zAr h3.2;simp only [q27] at h4;show (c==1&&(f.Exp==1&&decide (2<=f.At.Kind)))=(c==1&&(f.Exp==1&&(f.At.Kind==2||f.At.Kind==3||f.At.Kind==4)))
   have e:decide (2<=f.At.Kind)=(f.At.Kind==2||f.At.Kind==3||f.At.Kind==4):=by
    rw [zfi,zfi,zfi, <- Bool.decide_or, <- Bool.decide_or];congr 1;apply propext; omega
   rw [e]
  | f::f'::r=>rfl
 | t::u::r=>rfl
theorem zbnG (g) (l:yA):zcO g l=IG (λ(_:Unit) x=>g x) (l.length+(Int.ofNat l.length).toNat +Int.toNat (0:Int)+(1:Nat)) () l:=rfl
theorem zbnz (g) (l:yD):zc9 g l=IG (λ(_:Unit) x=>g x) (l.length+(Int.ofNat l.length).toNat +Int.toNat (0:Int)+(1:Nat)) () l:=rfl
theorem zPJ:∀ n,
  (∀ d m a,zq d a->10*d<=n->d<=m->d<=100->zO a<=4611686018427387904->zkv n a=(true,zbi m a))/\
  (∀ d m x,zdl (zq d) x->10*d+9<=n->d<=m->d<=99->zft x<=4611686018427387904->znn n x=(true,zdj (zbi m) x))/\
  (∀ d m a,zq d a->10*d+6<=n->d<=m->d<=99->zO a<=4611686018427387904->zfq n a=(true, !(zbi m a&& !(a.length==0))))/\
  (∀ d m (w:Wd),zq d w.Ann->10*d+6<=n->d<=m->d<=99->zO w.Ann<=4611686018427387904->zfu n w=(true, !(zbi m w.Ann&& !(w.Ann.length==0))))/\
  (∀ d m (l:yA),l.length<=1000000->(∀ a∈l,zq d a/\zO a<=4611686018427387904)->10*d+7<=n->d<=m->d<=99->zcR n l=(true,ixf (λa=> !(zbi m a&& !(a.length==0))) l 0))/\
  (∀ d m (l:yA),l.length<=1000000->(∀ a∈l,zq d a/\zO a<=4611686018427387904)->10*d+8<=n->d<=m->d<=99->zcx n l=(true, !zrO (zbi m) l))/\
  (∀ d m (l:yD),l.length<=1000000->(∀ a∈l,zq d a.Ann/\zO a.Ann<=4611686018427387904)->10*d+7<=n->d<=m->d<=99->zdb n l=(true,ixf (λa=> !(zbi m a.Ann&& !(a.Ann.length==0))) l 0))/\
  (∀ d m (l:yD),l.length<=1000000->(∀ a∈l,zq d a.Ann/\zO a.Ann<=4611686018427387904)->10*d+8<=n->d<=m->d<=99->zcW n l=(true, !zEb (zbi m) l))
 | 0=>by
  refine ⟨?_, ?_, ?_, ?_, ?_, ?_, ?_, ?_⟩
  ·intro d m a h hd; have:d=0:=by omega
   subst this; exact h.elim
  all_goals (intros; omega)
 | n+1=>by
  obtain ⟨h1,h2,h3,h4,h5,h6,h7,h8⟩:=zPJ n;refine ⟨?_, ?_, ?_, ?_, ?_, ?_, ?_, ?_⟩
  ·intro d m a h hd hm hd2 hs;cases d with
   | zero=>exact h.elim
   | succ d=>
    cases m with
    | zero=>omega
    | succ m=>
     rw [zSS]
     exact zbgT _ _ a h (by omega) hs λt ht f hf=>h2 d m f.At ((h.2 t ht).2 f hf) (by omega) (by omega) (by omega) (by
      have:=z71 ht hf; rw [zhM]; omega)
  ·intro d m x h hd hm hd2 hs;rw [zLj];rw [zhM] at hs
   exact z89 _ _ _ _ _ x h hd2 (h6 d m _ h.1.1 (λa ha=>⟨h.2.1 a ha,by have:=z2t ha; omega⟩) (by omega) hm hd2)
    (h8 d m _ h.1.2.1 (λa ha=>⟨(h.2.2 a ha).2,by have:=zYS ha; omega⟩) (by omega) hm hd2)
  ·intro d m a h hd hm hd2 hs;rw [zHa];unfold zkI zwq;rw [Wy.fin_bn,h1 d m a h (by omega) hm (by omega) hs]
   simp only [q7,Wy.fin_i,Wy.fin_k,show (Int.ofNat a.length==(0:Int))=(a.length==0) from ztE a.length 0]
   cases zbi m a <;>simp
  ·intro d m a h hd hm hd2 hs;rw [zHG];unfold zkP zwB;rw [Wy.fin_bn,h1 d m a.Ann h (by omega) hm (by omega) hs]
   simp only [q7,Wy.fin_i,Wy.fin_k,show (Int.ofNat a.Ann.length==(0:Int))=(a.Ann.length==0) from ztE a.Ann.length 0]
   cases zbi m a.Ann <;>simp
  ·intro d m l hl h hd hm hd2;rw [znm,zbnG];exact zLF _ _ _ _ _ (by omega) (λx hx=>h3 d m x (h x hx).1 (by omega) hm hd2 (h x hx).2) (by omega)
  ·intro d m l hl h hd hm hd2;rw [zmd];unfold zcv zfC;rw [zk5 (h5 d m l hl h (by omega) hm hd2)]
   simp [zrO,q21]
  ·intro d m l hl h hd hm hd2;rw [zpv,zbnz];exact zLF _ _ _ _ _ (by omega) (λx hx=>h4 d m x (h x hx).1 (by omega) hm hd2 (h x hx).2) (by omega)
  ·intro d m l hl h hd hm hd2;rw [znS];unfold zcY zgG;rw [zk5 (h7 d m l hl h (by omega) hm hd2)]
   simp [zEb,q21]
theorem zbeM {a:yB} (h:zfN a=true) {t:Term} (ht:t∈a) {f:Fc} (hf:f∈t.Fs):f.At.Items.length<=1024/\f.Exp<=64/\t.Fs.length<=64:=by
 simp only [zfN,qa,q1d] at h;have:=h.2 t ht;simp only [zCB,q17,Bool.or_eq_false_iff,q1c,List.any_eq_false] at this;have h2:=this.2 f hf;simp at h2;omega
theorem z6N:∀ n,
  (∀ d m a,zq d a->3*d<=n->d<=m->d<=100->zO a<=4611686018427387904->zyd n a=(true,zbi m a))/\
  (∀ d m x,zdl (zq d) x->3*d+2<=n->d<=m->d<=99->zft x<=4611686018427387904->x.Items.length<=1024->zu9 n x=(true,zdj (zbi m) x))
 | 0=>by
  refine ⟨?_, ?_⟩
  ·intro d m a h hd; have:d=0:=by omega
   subst this; exact h.elim
  ·intros; omega
 | n+1=>by
  obtain ⟨h1,h2⟩:=z6N n;refine ⟨?_, ?_⟩
  ·intro d m a h hd hm hd2 hs;cases d with
   | zero=>exact h.elim
   | succ d=>
    cases m with
    | zero=>omega
    | succ m=>
     rw [z26]
     exact zbej _ _ a h (by omega) hs (λhw t ht f hf=>h2 d m f.At ((h.2 t ht).2 f hf) (by omega) (by omega) (by omega) (by
      have:=z71 ht hf; rw [zhM]; omega) (zbeM hw ht hf).1) λx hx=>zAr hx
  ·intro d m x h hd hm hd2 hs h10;rw [zT7];rw [zhM] at hs
   exact z5v _ _ x h hd2 h10 (λa ha=>zNq ha) (λa ha=>h1 d m a (h.2.1 a ha) (by omega) hm (by omega) (by have:=z2t ha; omega))
    λa ha=>h1 d m a.Ann (h.2.2 a ha).2 (by omega) hm (by omega) (by have:=zYS ha; omega)
def zx (a:yB):Bool:=zbi 100 a
theorem z9M {d:Nat} {a:yB} (h:zq d a) (hd:d<=100) (hs:zO a<=4611686018427387904):zci a=(true,zx a):=(zPJ 1000).1 d 100 a h (by omega) hd hd hs
theorem z5n {d:Nat} {a:yB} (h:zq d a) (hd:d<=100) (hs:zO a<=4611686018427387904):zfk a=(true,zx a):=(z6N 1000).1 d 100 a h (by omega) hd hd hs
theorem zQI {τ:Type} [Inhabited τ] {l:List τ} {x:τ} (h:x∈l):∃ i,i<l.length/\l.getD i default=x:=by
 obtain ⟨i,hi,e⟩:=List.mem_iff_getElem.1 h;exact ⟨i,hi,by rw [qi,ql hi]; exact e⟩
theorem zH7 {vat:At->Bool} {a:yB} (h:zvm vat a=true):zfN a=true:=by
 simp only [zvm,qa] at h; exact h.1
theorem zwm {vat:At->Bool} {a:yB} (h:zvm vat a=true) {t:Term} (ht:t∈a):(1<=t.Cf/\t.Cf<=1152921504606846976)/\okF vat t.Fs=true:=by
 simp only [zvm,qa] at h;obtain ⟨i,hi,rfl⟩:=zQI ht;have:=zdU.1 h.2 i (by omega) (by omega)
 simp only [zFL,qa,qb] at this;exact ⟨this.1.1,this.2⟩
theorem zqo {vat:At->Bool} {fs:yC} (h:okF vat fs=true) {f:Fc} (hf:f∈fs):(1<=f.Exp/\(f.At.Kind=3\/f.At.Kind=4->f.Exp=1))/\vat f.At=true:=by
 obtain ⟨i,hi,rfl⟩:=zQI hf;have:=zdU.1 h i (by omega) (by omega)
 simp only [zQ1,qa,qb] at this;refine ⟨⟨this.1.1.1,λhk=> ?_⟩,this.2⟩
 have h2:=this.1.1.2;rcases hk with hk | hk
 ·rw [hk] at h2; simpa using h2
 ·rw [hk] at h2; simpa using h2
theorem zbku {b:Value} (h:bz b=true):b=⟨0,0,ByteArray.mk #[]⟩:=by
 unfold bz at h;rw [zDV] at h;simp only [qa,beq_iff_eq,qb,and_true] at h;obtain ⟨k,i,t⟩:=b;simp only at h;obtain ⟨rfl,rfl,rfl⟩:=h;rfl
theorem zww {v:Value} (h:zrF v=true):v.Text.size<=255:=by
 simp only [zrF,q1w,qa,beq_iff_eq,qb] at h;omega
theorem zTU {x:At} (h:plA x=true):x.Func=0/\x.Items=[]/\x.Op=0/\x.Bd=⟨0,0,ByteArray.mk #[]⟩:=by
 simp only [plA,qa,beq_iff_eq] at h;exact ⟨h.1.1.1,q29.1 h.1.1.2,h.1.2,zbku h.2⟩
theorem zbln {r:RowID} (h:rz r=true):r=⟨0,0⟩:=by
 simp only [rz,qa,beq_iff_eq,and_true] at h;obtain ⟨t,s⟩:=r;simp only at h;obtain ⟨rfl,rfl⟩:=h; rfl
inductive VA (V:yB->Bool):At->Prop
 | var (r:RowID) (h:zw2 r=true):VA V ⟨0,r,[],0,[],0,⟨0,0,ByteArray.mk #[]⟩⟩
 | mon (a b:yB) (ha:V a=true) (hb:V b=true) (ha0:a≠[]) (hb0:b≠[]) (h:a≠b):VA V ⟨1,⟨0,0⟩,[a,b],0,[],0,⟨0,0,ByteArray.mk #[]⟩⟩
 | del (a:yB) (ha:V a=true) (ha0:a≠[]) (h:isC a=false) (h':isU a=false):VA V ⟨2,⟨0,0⟩,[a],0,[],0,⟨0,0,ByteArray.mk #[]⟩⟩
 | abs (a:yB) (ha:V a=true) (ha0:a≠[]) (h:zuo a=false):VA V ⟨3,⟨0,0⟩,[a],0,[],0,⟨0,0,ByteArray.mk #[]⟩⟩
 | tst (f:Int) (l:yD) (o:Int) (b:Value) (hl:l≠[]) (hi:∀ w∈l,V w.Ann=true/\w.Ann≠[]) (hs:z0o l=true) (hf:zyw f l o b=true):VA V ⟨4,⟨0,0⟩,[],f,l,o,b⟩
theorem zcZ {V:yB->Bool} {x:At}:zdj V x=true↔VA V x:=by
 constructor
 ·intro h;have hk:=zAr h;obtain ⟨k,r,l,f,its,o,b⟩:=x;simp only at hk;unfold zdj at h;simp only [qa] at h;obtain ⟨h1,h2⟩:=h
  have ha:∀ a∈l,V a=true/\a≠[]:=λa ha=>by
   have:=q1d.1 h1 a ha;simp only [qa,q17,q22] at this;exact ⟨this.1,λe=>this.2 (by rw [e]; rfl)⟩
  by_cases h0:k=0
  ·subst h0;simp only [if_true,qa,beq_iff_eq] at h2;obtain ⟨e1,e2,e3,e4⟩:=zTU h2.1.1;simp only at e1 e2 e3 e4;subst e1 e2 e3 e4;obtain rfl:l=[]:=q29.1 h2.2;exact .var r h2.1.2
  simp only [h0,if_false,qa] at h2;obtain ⟨hr,h2⟩:=h2;have hr':=zbln hr;subst hr';by_cases h0':k=1
  ·subst h0';simp only [if_true,qa] at h2;obtain ⟨e1,e2,e3,e4⟩:=zTU h2.1;simp only at e1 e2 e3 e4;subst e1 e2 e3 e4
   match l,h2.2,ha with
   | [a,b],h3,ha=>exact .mon a b (ha a (by simp)).1 (ha b (by simp)).1 (ha a (by simp)).2 (ha b (by simp)).2 (by simpa [z6A] using h3)
  simp only [h0',if_false] at h2;by_cases h2':k=2
  ·subst h2';simp only [if_true,qa] at h2;obtain ⟨e1,e2,e3,e4⟩:=zTU h2.1;simp only at e1 e2 e3 e4;subst e1 e2 e3 e4
   match l,h2.2,ha with
   | [a],h3,ha=>
    simp only [zHV,qa,q17] at h3;exact .del a (ha a (by simp)).1 (ha a (by simp)).2 h3.1 h3.2
  simp only [h2',if_false] at h2;by_cases h3':k=3
  ·subst h3';simp only [if_true,qa] at h2;obtain ⟨e1,e2,e3,e4⟩:=zTU h2.1;simp only at e1 e2 e3 e4;subst e1 e2 e3 e4
   match l,h2.2,ha with
   | [a],h3,ha=>
    simp only [zHV,q17] at h3;exact .abs a (ha a (by simp)).1 (ha a (by simp)).2 h3
  simp only [h3',if_false] at h2;have h4':k=4:=by omega
  subst h4';simp only [if_true,qa,beq_iff_eq,qb] at h2;obtain ⟨⟨⟨⟨h3,h4⟩,h5⟩,h6⟩,h7⟩:=h2;obtain rfl:l=[]:=q29.1 h3
  exact .tst f its o b (λe=>by rw [e] at h4; simp at h4) (λw hw=>by
   have:=q1d.1 h5 w hw;simp only [qa,q17,q22] at this;exact ⟨this.1,λe=>this.2 (by rw [e]; rfl)⟩) h6 h7
 ·intro h
  have ne:∀ a:yB,a≠[]->(a.length==0)=false:=λa ha=>by
   rw [q22]; exact λe=>ha (q29.1 e)
  cases h with
  | var r h=>simp [zdj,zrO,plA,bz,h]
  | mon a b ha hb ha0 hb0 h=>simp [zdj,zrO,plA,bz,rz,z6A,ha,hb,ha0,hb0,h]
  | del a ha ha0 h h'=>simp [zdj,zrO,plA,bz,rz,zHV,ha,ha0,h,h']
  | abs a ha ha0 h=>simp [zdj,zrO,plA,bz,rz,zHV,ha,ha0,h]
  | tst f l o b hl hi hs hf=>
   have h1:zEb V l=true:=q1d.2 λw hw=>by rw [(hi w hw).1,ne _ (hi w hw).2]; rfl
   have h2:0<l.length:=by
    cases l with
    | nil=>exact absurd rfl hl
    | cons x r=>simp
   simp [zdj,zrO,rz,h1,hs,hf,h2]
theorem ztG {a:yB} (h:zfN a=true):a.length<=512/\zbt a<=8/\zO a<=4096/\∀ t∈a,t.Fs.length<=64/\∀ f∈t.Fs,f.Exp<=64/\f.At.Items.length<=1024:=by
 simp only [zfN,qa,q1d,qb] at h;refine ⟨h.1.1.1,h.1.1.2,h.1.2,λt ht=> ?_⟩
 have:=h.2 t ht;simp only [zCB,q17,Bool.or_eq_false_iff,q1c,List.any_eq_false] at this;refine ⟨by omega,λf hf=> ?_⟩
 have h2:=this.2 f hf;simp at h2;omega
theorem z6q {a:yB} {t:Term} (h:t∈a):zdt t.Fs<=zbt a:=by
 induction a with
 | nil=>cases h
 | cons b r ih=>
  rw [zyh];rcases q8.1 h with rfl | h
  ·omega
  ·have:=ih h; omega
theorem zSk {l:yC} {f:Fc} (h:f∈l):zoj f.At<=zdt l:=by
 induction l with
 | nil=>cases h
 | cons b r ih=>
  rw [zjH];rcases q8.1 h with rfl | h
  ·omega
  ·have:=ih h; omega
theorem zQR {l:yA} {a:yB} (h:a∈l):zbt a<=zmU l:=by
 induction l with
 | nil=>cases h
 | cons b r ih=>
  rw [zFA];rcases q8.1 h with rfl | h
  ·omega
  ·have:=ih h; omega
theorem zbbK {l:yD} {w:Wd} (h:w∈l):zbt w.Ann<=zlE l:=by
 induction l with
 | nil=>cases h
 | cons b r ih=>
  rw [zCo];rcases q8.1 h with rfl | h
  ·omega
  ·have:=ih h; omega
theorem ztR {f:Int} {l:yD} {o:Int} {b:Value} (h:zyw f l o b=true):(0<=f/\f<=3/\5<=o/\o<=10)/\zrF b=true/\∀ w∈l,zrF w.Value=true/\w.Value.Kind=b.Kind:=by
 simp only [zyw,qa,q1d,qb] at h;obtain ⟨⟨⟨⟨⟨⟨h1,h2⟩,h3⟩,h4⟩,h5⟩,h6⟩,h7⟩:=h;refine ⟨⟨h1,h2,h3,h4⟩,h5,λw hw=> ?_⟩
 have:=h7 w hw;simp only [zNc,qa,beq_iff_eq] at this;exact this.1
theorem z6y:∀ (m:Nat) (a:yB),zbi m a=true->zq (zbt a+1) a
 | 0,a,h=>by cases h
 | m+1,a,h=>by
  have hw:=ztG (zH7 h);refine ⟨by omega,λt ht=> ?_⟩
  obtain ⟨_,hok⟩:=zwm h ht;obtain ⟨h1,h2⟩:=hw.2.2.2 t ht;refine ⟨by omega,λf hf=> ?_⟩
  have hv:=zcZ.1 (zqo hok hf).2;have hn:zoj f.At<=zbt a:=q18 (zSk hf) (z6q ht);have h3:=(h2 f hf).2;generalize f.At=x at hv hn h3;rw [zEW] at hn;have ih:∀ b,zbi m b=true->zbt b+1<=zbt a->zq (zbt a) b:=λb hb hl=>(z6y m b hb).mono hl
  cases hv with
  | var r h=>exact ⟨⟨by simp,by simp,by show (ByteArray.mk #[]).size<=_; decide⟩,λa ha=>(by cases ha),λw hw=>(by cases hw)⟩
  | mon b c hb hc _ _ _=>
   simp only at hn;refine ⟨⟨by simp,by simp,by show (ByteArray.mk #[]).size<=_; decide⟩,λy hy=> ?_,λw hw=>(by cases hw)⟩
   have:=zQR hy;simp only at this;simp only [q8,q16,or_false] at hy;rcases hy with rfl | rfl
   ·exact ih _ hb (by simp at hn; omega)
   ·exact ih _ hc (by simp at hn; omega)
  | del b hb _ _ _=>
   refine ⟨⟨by simp,by simp,by show (ByteArray.mk #[]).size<=_; decide⟩,λy hy=> ?_,λw hw=>(by cases hw)⟩
   have:=zQR hy;simp only at this;simp only [q8,q16,or_false] at hy;subst hy;exact ih _ hb (by simp at hn; omega)
  | abs b hb _ _=>
   refine ⟨⟨by simp,by simp,by show (ByteArray.mk #[]).size<=_; decide⟩,λy hy=> ?_,λw hw=>(by cases hw)⟩
   have:=zQR hy;simp only at this;simp only [q8,q16,or_false] at hy;subst hy;exact ih _ hb (by simp at hn; omega)
  | tst fn l o b hl hi hs hf=>
   obtain ⟨_,hb,hit⟩:=ztR hf;refine ⟨⟨by simp,by simp only at h3 ⊢; omega,by have:=zww hb; simp only; omega⟩,λy hy=>(by cases hy),λw hw=>⟨by have:=zww (hit w hw).1; omega, ?_⟩⟩
   have:=zbbK hw;simp only at this;exact ih _ (hi w hw).1 (by simp at hn; omega)
theorem zeM {m:Nat} {a:yB} (h:zbi m a=true):zq 9 a/\zO a<=4096/\a.length<=512:=by
 cases m with
 | zero=>cases h
 | succ m=>
 have hw:=ztG (zH7 h);exact ⟨(z6y _ a h).mono (by omega),hw.2.2.1,hw.1⟩
theorem zbae {d m m':Nat} {a:yB} (h:zq d a) (hd:d<=100) (h1:d<=m) (h2:d<=m') (hs:zO a<=4611686018427387904):zbi m a=zbi m' a:=by
 have e1:=(zPJ 1000).1 d m a h (by omega) h1 hd hs
 have e2:=(zPJ 1000).1 d m' a h (by omega) h2 hd hs
 rw [e1] at e2;exact (qe _ _ _ _ ▸ e2).2
theorem zbbW {m:Nat} {a:yB} (h:zbi m a=true) (hm:9<=m):zx a=true:=by
 obtain ⟨h1,h2,h3⟩:=zeM h;rw [<- h]; exact zbae h1 (by omega) (by omega) hm (by omega)
theorem zHx {m:Nat} {a:yB} (h:zx a=true) (hm:9<=m):zbi m a=true:=by
 obtain ⟨h1,h2,h3⟩:=zeM h;rw [<- h]; exact zbae h1 (by omega) hm (by omega) (by omega)
theorem VA.imp {V V':yB->Bool} (hV:∀ a,V a=true->V' a=true) {x:At} (h:VA V x):VA V' x:=by
 cases h with
 | var r h=>exact .var r h
 | mon a b ha hb ha0 hb0 h=>exact .mon a b (hV a ha) (hV b hb) ha0 hb0 h
 | del a ha ha0 h h'=>exact .del a (hV a ha) ha0 h h'
 | abs a ha ha0 h=>exact .abs a (hV a ha) ha0 h
 | tst f l o b hl hi hs hf=>exact .tst f l o b hl (λw hw=>⟨hV _ (hi w hw).1,(hi w hw).2⟩) hs hf
def zoX (x:At):Bool:=zdj zx x
theorem zbhH {m:Nat} (hm:9<=m):zdj (zbi m)=zoX:=by
 funext x
 rw [Bool.eq_iff_iff];unfold zoX;rw [zcZ,zcZ];exact ⟨VA.imp λa h=>zbbW h hm,VA.imp λa h=>zHx h hm⟩
theorem z6E (a:yB):zx a=zvm zoX a:=by
 show zvm (zdj (zbi 99)) a=_;rw [zbhH (by omega)]
theorem z3a {τ:Type} [Inhabited τ] {l:List τ} {i:Nat} (h:i<l.length):l.set i (l.getD i default)=l:=by
 rw [qi,ql h]; simp
section
variable (g:yB->Bool×yB) (gx:At->Bool×At)
theorem zbnY (t8:yB) (t9 t10:Int) (out:yB) (t:Term) (l:yC) (hl:l.length<=1000000) (hg:∀ f∈l,gx f.At=(true,f.At)) (n:Nat) (hn:l.length<n):
  zCm gx n t8 t9 t10 l.length 0 out t l=(true,(t8,t9,t10,out,t,l)):=by
 have:=zcs (W:=zuL gx) (z:=default) l.length (λi=>((),(),(),t8,t9,t10,(l.length:Int),(i:Int),())) (λ_=>(out,t,l,())) (λ_=>true) default (t8,t9,t10,out,t,l)
  (λi hi H K D=>by
   show (zjU gx t8 t9 t10 l.length i out t l).ev H K D=_;unfold zjU Wy.ix At.et;simp only [At.eta,Wy.ev_i,Wy.ev_k,Wy.ev_h,Wy.ev_bn,Wy.ev_d,tT,hi,hg _ (zm hi)];rw [zu (by omega)]
   have:(l.set i (⟨(l.getD i default).At,(l.getD i default).Exp⟩:Fc))=l:=z3a hi;rw [this])
  (λH K D=>by
   show (zjU gx t8 t9 t10 l.length l.length out t l).ev H K D=_;unfold zjU Wy.ix At.et;simp only [Wy.ev_i,Wy.ev_k,tT,qr]) n hn
 rw [show zd5 (λ_=>true) l.length 0=true from zdU.2 λ_ _ _=>rfl] at this
 exact this
theorem zbnV (a:yB) (hl:a.length<=1000000) (hg:∀ t∈a,t.Fs.length<=1000000/\∀ f∈t.Fs,gx f.At=(true,f.At)) (n:Nat) (hn:a.length<n):
  zCj gx n a a.length 0 []=(true,a):=by
 have hreach:zD=70368744177664:=rfl
 have:=zcs (W:=zuw gx) (z:=default) a.length (λi=>((),a,(a.length:Int),(i:Int),())) (λi=>(a.take i,())) (λ_=>true) default a
  (λi hi H K D=>by
   show (zjT gx a a.length i (a.take i)).ev H K D=_;unfold zjT zfo Wy.ix;obtain ⟨h1,h2⟩:=hg _ (zm hi);have hb:decide ((a.getD i default).Fs.length*128<=zD)=true:=by simp only [qb]; omega
   simp only [Wy.ev_i,Wy.ev_k,Wy.ev_h,Wy.ev_bn,Wy.ev_d,tT,hi,hb];rw [zbnY gx a a.length i (a.take i) _ _ h1 h2 _ (by omega)]
   have hb2:decide (((a.take i).length+1)*32<=zD)=true:=by simp only [qb,q15]; omega
   simp only [q7,qy,hb2];rw [zu (by omega),zkE hi])
  (λH K D=>by
   show (zjT gx a a.length a.length (a.take a.length)).ev H K D=_;unfold zjT Wy.ix;simp only [Wy.ev_i,Wy.ev_k,tT,qr,q2v]) n hn
 rw [show zd5 (λ_=>true) a.length 0=true from zdU.2 λ_ _ _=>rfl] at this
 exact this
end
def txV (v:Value):List UInt8:=if v.Kind=0 then ziZ v.Int else if v.Kind=1 then 39::(v.Text.data.toList.flatMap esc++[39]) else if v.Int=1 then [84,82,85,69] else [70,65,76,83,69]
def txR (r:RowID):List UInt8:=116::(ziZ r.Table++46::ziZ r.Seq)
def fnT (f:Int):List UInt8:=if f=0 then [67,79,85,78,84] else if f=1 then [83,85,77] else if f=2 then [77,73,78] else [77,65,88]
def opT (o:Int):List UInt8:=if o=5 then [61] else if o=6 then [60,62] else if o=7 then [60] else if o=8 then [60,61] else if o=9 then [62] else [62,61]
def zUR (ts:List (List UInt8)):List UInt8:=if ts=[] then [48] else zeX ts [32,43,32]
def zZH (c:Int) (fs:List (List UInt8)):List UInt8:=if fs=[] then ziZ c else if c=1 then zeX fs [42] else ziZ c++42::zeX fs [42]
def zO9 (x:List UInt8) (e:Int):List UInt8:=if e=1 then x else x++94::ziZ e
def zdA (k:Int) (r:RowID) (xs:List (List UInt8)) (f:Int) (is:List (List UInt8)) (o:Int) (b:Value):List UInt8:=
 if k=0 then txR r
 else if k=1 then [109,111,110,117,115,91]++(xs.getD 0 []++([44,32]++(xs.getD 1 []++[93])))
 else if k=2 then [100,101,108,116,97,91]++(xs.getD 0 []++[93])
 else if k=3 then [97,98,115,101,110,116,91]++(xs.getD 0 []++[93])
 else [116,101,115,116,91]++(fnT f++([123]++(zeX is [59,32]++([125,32]++(opT o++([32]++(txV b++[93])))))))
mutual
def txA:At->List UInt8
 | ⟨k,r,a,f,i,o,b⟩=>zdA k r (z86 a) f (z9b i) o b
def zMn:yC->List (List UInt8)
 | []=>[]
 | ⟨x,e⟩::l=>zO9 (txA x) e::zMn l
def zTs:yB->List (List UInt8)
 | []=>[]
 | ⟨c,fs⟩::l=>zZH c (zMn fs)::zTs l
def z86:yA->List (List UInt8)
 | []=>[]
 | a::l=>zUR (zTs a)::z86 l
def z9b:yD->List (List UInt8)
 | []=>[]
 | ⟨v,a⟩::l=>(txV v++([58,32]++zUR (zTs a)))::z9b l
end
def txF (f:Fc):List UInt8:=zO9 (txA f.At) f.Exp
def txT (t:Term):List UInt8:=zZH t.Cf (zMn t.Fs)
def txN (a:yB):List UInt8:=zUR (zTs a)
def txI (w:Wd):List UInt8:=txV w.Value++([58,32]++txN w.Ann)
theorem zzT:∀ l,zMn l=l.map txF
 | []=>by rw [zMn]; rfl
 | x::r=>by rw [zMn,zzT r]; rfl
theorem zVc:∀ l,zTs l=l.map txT
 | []=>by rw [zTs]; rfl
 | x::r=>by rw [zTs,zVc r]; rfl
theorem zmT:∀ l,z86 l=l.map txN
 | []=>by rw [z86]; rfl
 | x::r=>by rw [z86,zmT r]; rfl
theorem zMa:∀ l,z9b l=l.map txI
 | []=>by rw [z9b]; rfl
 | x::r=>by rw [z9b,zMa r]; rfl
theorem zbl3 (x:At):txA x=zdA x.Kind x.Row (z86 x.Ag) x.Func (z9b x.Items) x.Op x.Bd:=by cases x; rw [txA]
def txL (l:yC):List UInt8:=zeX (zMn l) [42]
theorem zTc {v:Value} (h:zrF v=true):(txV v).length<=512:=by
 have ht:=zww h;unfold txV;have h1:=zqE v.Int;have h2:=z8U v.Text.data.toList;have h3:v.Text.data.toList.length=v.Text.size:=by rw [q1h]; rfl
 split
 ·omega
 ·split
  ·simp only [qc,qf,qv]; omega
  ·split <;>simp
theorem zbk7 (r:RowID):(txR r).length<=44:=by
 have h1:=zqE r.Table;have h2:=zqE r.Seq;simp only [txR,qc,qf]; omega
theorem zbfL (f:Int):(fnT f).length<=5:=by unfold fnT; (repeat' split) <;>simp
theorem zbfB (f:Int):(opT f).length<=2:=by unfold opT; (repeat' split) <;>simp
theorem zT4 {α:Type} (t:α->List UInt8) (m:α->Nat) (s:List UInt8):∀ l:List α,(∀ x∈l,(t x).length+s.length<=m x)->(zeX (l.map t) s).length<=(l.map m).sum
 | [],_=>by simp [zeX]
 | [x],h=>by
  have:=h x (by simp)
  simp only [List.map,zeX,List.sum_cons,List.sum_nil]; omega
 | x::y::r,h=>by
  have h1:=h x (by simp)
  have h2:=zT4 t m s (y::r) λz hz=>h z (q1y _ hz)
  simp only [List.map,zeX,qf,List.sum_cons] at h2 ⊢;omega
theorem z2i:∀ l:yC,(l.map λf=>1000+1000*zft f.At).sum=1000*(l.length+zbK l)
 | []=>by rw [zi2]; rfl
 | f::r=>by rw [q1q,List.sum_cons,z2i r,zda,qc]; omega
theorem z99:∀ l:yB,(l.map λt=>1000+1000*(t.Fs.length+zbK t.Fs)).sum=1000*zO l
 | []=>by rw [zxf]; rfl
 | f::r=>by rw [q1q,List.sum_cons,z99 r,zf7]; omega
theorem z93:∀ l:yD,(l.map λt=>1000+1000*zO t.Ann).sum=1000*zdm l
 | []=>by rw [zfS]; rfl
 | f::r=>by rw [q1q,List.sum_cons,z93 r,ziE]; omega
theorem zblH {x:At} {e:Int} (h:(txA x).length<=700+1000*zft x):(zO9 (txA x) e).length+1<=1000+1000*zft x:=by
 have:=zqE e;unfold zO9;split
 ·omega
 ·simp only [qf,qc]; omega
theorem zbcZ {l:yC} (h:∀ f∈l,(txA f.At).length<=700+1000*zft f.At):(txL l).length<=1000*(l.length+zbK l):=by
 unfold txL;rw [zzT, <- z2i];exact zT4 txF (λf=>1000+1000*zft f.At) [42] l λf hf=>zblH (h f hf)
theorem z0H:∀ (m:Nat),(∀ a,zbi m a=true->(txN a).length<=1+1000*zO a)/\(∀ x,zdj (zbi m) x=true->(txA x).length<=700+1000*zft x)
 | m=>by
  have hA:∀ (V:yB->Bool),(∀ a,V a=true->(txN a).length<=1+1000*zO a)->∀ x,zdj V x=true->(txA x).length<=700+1000*zft x:=by
   intro V hV x hx;rw [zhM];cases zcZ.1 hx with
   | var r h=>
    rw [txA]; have:=zbk7 r;simp only [zdA,if_true]; omega
   | mon a b ha hb _ _ _=>
    have h1:=hV a ha; have h2:=hV b hb;rw [txA,zmT];simp only [zdA,zfc,zg4,zfS,List.map,q27,List.getD_cons_succ,qf,qc,qv];simp only [show ¬ (1:Int)=0 by decide,if_false,if_true,qf,qc,qv]
    omega
   | del a ha _ _ _=>
    have h1:=hV a ha;rw [txA,zmT];simp only [zdA,zfc,zg4,zfS,List.map,q27];simp only [show ¬ (2:Int)=0 by decide,show ¬ (2:Int)=1 by decide,if_false,if_true,qf,qc,qv]
    omega
   | abs a ha _ _=>
    have h1:=hV a ha;rw [txA,zmT];simp only [zdA,zfc,zg4,zfS,List.map,q27];simp only [show ¬ (3:Int)=0 by decide,show ¬ (3:Int)=1 by decide,show ¬ (3:Int)=2 by decide,if_false,if_true,qf,qc,qv]
    omega
   | tst f l o b hl hi hs hf=>
    obtain ⟨_,hb,hit⟩:=ztR hf;have h1:=zbfL f; have h2:=zbfB o; have h3:=zTc hb
    have h4:(zeX (l.map txI) [59,32]).length<=1000*zdm l:=by
     rw [<- z93];refine zT4 txI (λw=>1000+1000*zO w.Ann) [59,32] l λw hw=> ?_
     have h5:=hV _ (hi w hw).1; have h6:=zTc (hit w hw).1;simp only [txI,qf,qc,qv]; omega
    rw [txA,zMa];simp only [zdA,zg4];simp only [show ¬ (4:Int)=0 by decide,show ¬ (4:Int)=1 by decide,show ¬ (4:Int)=2 by decide,show ¬ (4:Int)=3 by decide,if_false,qf,qc,qv]
    omega
  have hN:∀ a,zbi m a=true->(txN a).length<=1+1000*zO a:=by
   induction m with
   | zero=>intro a h; cases h
   | succ m ih=>
    intro a h;unfold txN zUR;split
    ·simp
    ·rw [zVc, <- z99];refine q18 (zT4 txT (λt=>1000+1000*(t.Fs.length+zbK t.Fs)) [32,43,32] a λt ht=> ?_) (Nat.le_add_left _ _)
     have hok:=(zwm h ht).2;have h5:=zbcZ (l:=t.Fs) λf hf=>hA _ ih _ (zqo hok hf).2
     have h6:=zqE t.Cf;have e:(zeX (zMn t.Fs) [42]).length=(txL t.Fs).length:=rfl;unfold txT zZH;simp only [qc,qv];split
     ·omega
     ·split
      ·omega
      ·simp only [qf,qc]; omega
  exact ⟨hN,hA _ hN⟩
theorem zmZ {n:Int} (h:wf3 n): -9223372036854775808<=n/\n<=9223372036854775807:=by
 have h:(Lit.int .i64 n).wf=true:=h;have:IntKind.i64.min<=n/\n<=IntKind.i64.max:=by simpa [Lit.wf] using h
 exact ⟨this.1,this.2⟩
def rng (n:Int):Prop:= -9223372036854775808<=n/\n<=9223372036854775807
instance (n:Int):Decidable (rng n):=by unfold rng; infer_instance
theorem z3U {n:Int} (h:rng n):strconv_Itoa n=(true,bs (ziZ n)):=by
 unfold strconv_Itoa zUn zPa;rw [qg h.1,qg h.2]; rfl
theorem zbfK {n:Int} (h:rng n):zjs n 10=(true,bs (ziZ n)):=by
 unfold zjs zwR zPa;rw [qg h.1,qg h.2]; rfl
theorem okS (n m:Nat) (h:n+m<=9223372036854775807):decide (n+m<=9223372036854775807)=true:=qg h
theorem zbiy {r:RowID} (h:zw2 r=true) (h1:rng r.Table) (h2:rng r.Seq):zxx r=(true,bs (txR r)):=by
 unfold zxx zPD txR;have l1:=zqE r.Table;have l2:=zqE r.Seq;rw [show ByteArray.mk #[(116:UInt8)]=bs [116] from rfl,show ByteArray.mk #[(46:UInt8)]=bs [46] from rfl]
 simp only [Wy.fin_bn,Wy.fin_i,Wy.fin_k,zEJ,h,z3U h1,z3U h2,q7,q9,qk,zEK,zvg,qf,qc,qv];rw [okS _ _ (by omega),okS _ _ (by omega),okS _ _ (by omega)]
 simp
theorem zbdV {v:Value} (h:zrF v=true) (hr:rng v.Int):zrB v=(true,bs (txV v)):=by
 unfold zrB zTi txV strings_ReplaceAll;have ht:=zww h;rw [show ByteArray.mk #[(39:UInt8)]=bs [39] from rfl,show ByteArray.mk #[(39:UInt8),(39:UInt8)]=bs [39,39] from rfl]
 simp only [Wy.fin_bn,Wy.fin_i,Wy.fin_k,zAD,h,zbfK hr,z85 _ ht,q7,q9,qk,zEK,zvg,qf,qc,qv];have h2:=z8U v.Text.data.toList;have h3:v.Text.data.toList.length=v.Text.size:=by rw [q1h]; rfl
 rw [okS _ _ (by omega),okS _ _ (by omega)]
 by_cases k0:v.Kind=0
 ·simp [k0]
 by_cases k1:v.Kind=1
 ·simp [k1]
 simp only [zfi,k0,k1,decide_false,q9,if_false];by_cases i1:v.Int=1
 ·simp only [i1,decide_true,q7,if_true]; rfl
 ·simp only [i1,decide_false,q9,if_false]; rfl
theorem zbke {f:Int} (h0:0<=f) (h3:f<=3):(decide ((0:Int)<=f)&&decide (f<Int.ofNat zce.snd.length))=true/\zce.snd.getD f.toNat default=bs (fnT f):=by
 have hc:f=0\/f=1\/f=2\/f=3:=by omega
 rcases hc with rfl | rfl | rfl | rfl <;>exact ⟨rfl,rfl⟩
theorem zbkH {o:Int} (h0:5<=o) (h3:o<=10):(decide ((0:Int)<=IntKind.i64.wrap (o - 5))&&decide (IntKind.i64.wrap (o - 5)<Int.ofNat zdQ.snd.length))=true/\zdQ.snd.getD (IntKind.i64.wrap (o - 5)).toNat default=bs (opT o):=by
 have hc:o=5\/o=6\/o=7\/o=8\/o=9\/o=10:=by omega
 rcases hc with rfl | rfl | rfl | rfl | rfl | rfl <;>exact ⟨rfl,rfl⟩
theorem z2G {m:Nat} {x:At} (h:zdj (zbi m) x=true) (hi:x.Items.length<=1024):zft x<=4195328:=by
 rw [zhM];cases zcZ.1 h with
 | var r h=>rw [zg4,zfS]; omega
 | mon a b ha hb _ _ _=>
  have h1:=(zeM ha).2.1; have h2:=(zeM hb).2.1;simp only [zfc,zg4,zfS]; omega
 | del a ha _ _ _=>
  have h1:=(zeM ha).2.1;simp only [zfc,zg4,zfS]; omega
 | abs a ha _ _=>
  have h1:=(zeM ha).2.1;simp only [zfc,zg4,zfS]; omega
 | tst f l o b hl hv hs hf=>
  have h1:∀ l:yD,(∀ w∈l,zO w.Ann<=4096)->zdm l<=l.length*4097:=λl=>by
   induction l with
   | nil=>intro _; rw [zfS]; omega
   | cons w r ih=>
    intro h;have:=h w (by simp)
    have:=ih λw hw=>h w (by simp [hw])
    rw [ziE,qc,q2s]; omega
  have:=h1 l λw hw=>(zeM (hv w hw).1).2.1
  have:=q1z hi (qn 4097);simp only [zg4] at this ⊢; omega
section
variable (gA:At->Bool×ByteArray) (gF:yC->Bool×ByteArray) (gT:yB->Bool×ByteArray)
theorem zbmz (l:yC) (hl:l.length<=1000) (hg:∀ f∈l,gA f.At=(true,bs (txA f.At))/\(txA f.At).length<=4200000000/\rng f.Exp):zgY gA l=(true,bs (txL l)):=by
 have hreach:zD=70368744177664:=rfl;unfold zgY zvs
 have:=zcs (W:=zl4 gA) (z:=default) l.length (λi=>((),l,(l.length:Int),(i:Int),())) (λi=>((l.take i).map λf=>bs (txF f),())) (λ_=>true) default (l.map λf=>bs (txF f))
  (λi hi H K D=>by
   show (zfy gA l l.length i ((l.take i).map λf=>bs (txF f))).ev H K D=_
   unfold zfy Wy.ix At.et;obtain ⟨h1,h2,h3⟩:=hg _ (zm hi);have l1:=zqE (l.getD i default).Exp;rw [show ByteArray.mk #[(94:UInt8)]=bs [94] from rfl]
   simp only [At.eta,Wy.ev_i,Wy.ev_k,Wy.ev_h,Wy.ev_bn,Wy.ev_d,tT,hi,h1,z3U h3,zEK,zvg,qf,qc,qv];rw [okS _ _ (by omega),okS _ _ (by omega),zu (by omega),zkE hi,q2g]
   have hb:decide ((((l.take i).map λf=>bs (txF f)).length+1)*16<=zD)=true:=by simp only [qb,q1b,q15]; omega
   generalize ((l.take i).map λf=>bs (txF f))=out at hb ⊢
   have hb':decide ((out.length+(0+1))*16<=zD)=true:=hb;simp only [hb,hb',q7,q1q,List.map_nil,txF,zO9,zj1];by_cases he:(l.getD i default).Exp=1
   ·simp only [he,decide_true,qk,q9,if_true]
   ·simp only [he,decide_false,q1k,q7,if_false,q2o])
  (λH K D=>by
   show (zfy gA l l.length l.length ((l.take l.length).map λf=>bs (txF f))).ev H K D=_
   unfold zfy Wy.ix At.et;simp only [Wy.ev_i,Wy.ev_k,tT,qr,q2v]) (l.length+(Int.ofNat l.length).toNat +Int.toNat (0:Int)+(0:Nat)+(1:Nat)) (by omega)
 rw [show zd5 (λ_=>true) l.length 0=true from zdU.2 λ_ _ _=>rfl] at this
 have e:zuY gA (l.length+(Int.ofNat l.length).toNat +Int.toNat (0:Int)+(0:Nat)+(1:Nat)) l (Int.ofNat l.length) (0:Int) []=(true,(l.map txF).map bs):=by rw [List.map_map]; exact this
 have hlen:(zeX (l.map txF) [42]).length<=140737488355328:=by
  refine q18 (zZ0 (B:=4200001000) (l.map txF) [42] λx hx=> ?_) (by
   rw [q1b]; have:=q1z hl (qn 4200001000); omega)
  obtain ⟨f,hf,rfl⟩:=q1p.1 hx;have:=(hg f hf).2.1;have:=zqE f.Exp;unfold txF zO9;split
  ·simp only [qc,qv]; omega
  ·simp only [qf,qc,qv]; omega
 rw [Wy.fin_bn,e,show ByteArray.mk #[(42:UInt8)]=bs [42] from rfl]
 unfold strings_Join;simp only [q7,Wy.fin_bn,Wy.fin_k,z3P _ _ (by rw [q1b]; omega) hlen]
 unfold txL;rw [zzT]
theorem zblX (a:yB) (hl:a.length<=1000) (hlen:(txN a).length<=140737488355328) (hg:∀ t∈a,gF t.Fs=(true,bs (txL t.Fs))/\(txL t.Fs).length<=4200000000/\rng t.Cf):zpg gF a=(true,bs (txN a)):=by
 have hreach:zD=70368744177664:=rfl;unfold zpg zGK;by_cases h0:a=[]
 ·subst h0;have e:txN []=[48]:=by unfold txN; rw [zTs]; rfl
  rw [e]; rfl
 have hne:(Int.ofNat a.length==(0:Int))=false:=by
  rw [q22]; intro e;have:(a.length:Int)=0:=e;exact h0 (q29.1 (by omega))
 have:=zcs (W:=zwW gF) (z:=default) a.length (λi=>((),a,(a.length:Int),(i:Int),())) (λi=>((a.take i).map λf=>bs (txT f),())) (λ_=>true) default (a.map λf=>bs (txT f))
  (λi hi H K D=>by
   show (zly gF a a.length i ((a.take i).map λf=>bs (txT f))).ev H K D=_
   unfold zly Wy.ix;obtain ⟨h1,h2,h3⟩:=hg _ (zm hi);have l1:=zqE (a.getD i default).Cf;rw [show ByteArray.mk #[(42:UInt8)]=bs [42] from rfl]
   have hL:decide ((i:Int)<(a.length:Int))=true:=by simp [hi]
   have hL':decide ((i:Int)<Int.ofNat a.length)=true:=hL;simp only [Wy.ev_i,Wy.ev_k,Wy.ev_h,Wy.ev_bn,Wy.ev_d,hL,hL',ze4,q13,q7,qt,h1,zbfK h3,zEK,zvg,qf,qc,qv,show (Int.ofNat (a.getD i default).Fs.length==(0:Int))=((a.getD i default).Fs.length==0) from ztE _ 0]
   rw [okS _ _ (by omega),okS _ _ (by omega),zu (by omega),zkE hi,q2g]
   have hb:decide ((((a.take i).map λf=>bs (txT f)).length+1)*16<=zD)=true:=by simp only [qb,q1b,q15]; omega
   generalize ((a.take i).map λf=>bs (txT f))=out at hb ⊢
   have hb':decide ((out.length+(0+1))*16<=zD)=true:=hb;simp only [hb,hb',q7,q1q,List.map_nil,txT,zZH,zfi]
   have e0:(zMn (a.getD i default).Fs=[])↔(a.getD i default).Fs.length=0:=by
    rw [zzT,List.map_eq_nil_iff,q29]
   by_cases hf:(a.getD i default).Fs.length=0
   ·rw [if_pos (e0.2 hf),hf]; rfl
   ·rw [if_neg (λe=>hf (e0.1 e)),z3g,qd hf]
    by_cases he:(a.getD i default).Cf=1
    ·simp only [he,decide_true,q7,q9,if_true,txL]
    ·simp only [he,decide_false,q9,if_false,txL,qu,q2o])
  (λH K D=>by
   show (zly gF a a.length a.length ((a.take a.length).map λf=>bs (txT f))).ev H K D=_
   unfold zly Wy.ix;simp only [Wy.ev_i,Wy.ev_k,tT,qr,q2v]) (a.length+(Int.ofNat a.length).toNat +Int.toNat (0:Int)+(0:Nat)+(1:Nat)) (by omega)
 rw [show zd5 (λ_=>true) a.length 0=true from zdU.2 λ_ _ _=>rfl] at this
 have e:zFc gF (a.length+(Int.ofNat a.length).toNat +Int.toNat (0:Int)+(0:Nat)+(1:Nat)) a (Int.ofNat a.length) (0:Int) []=(true,(a.map txT).map bs):=by rw [List.map_map]; exact this
 have ex:txN a=zeX (a.map txT) [32,43,32]:=by
  unfold txN zUR;rw [zVc,if_neg (by simpa using h0)]
 rw [ex] at hlen ⊢;rw [Wy.fin_i,hne,q9,Wy.fin_bn,e,show ByteArray.mk #[(32:UInt8),(43:UInt8),(32:UInt8)]=bs [32,43,32] from rfl]
 unfold strings_Join;simp only [q7,Wy.fin_bn,Wy.fin_k,z3P _ _ (by rw [q1b]; omega) hlen]
theorem zbnc {V:yB->Bool} (x:At) (hx:zdj V x=true) (hw:zgn x) (hi:x.Items.length<=1024) (hg:∀ a,(a∈x.Ag\/∃ w∈x.Items,a=w.Ann)->gT a=(true,bs (txN a))/\(txN a).length<=4200000000):zjg gT x=(true,bs (txA x)):=by
 have hreach:zD=70368744177664:=rfl;have W:=zng hw;unfold zjg zyW Wy.ix At.et;rw [zbl3];cases zcZ.1 hx with
 | var r h=>
  have hr:=W.2.2.2.2.1;simp only [Wy.fin_bn,Wy.fin_i,Wy.fin_k,zbiy h (zmZ hr.1) (zmZ hr.2)];simp [zdA]
 | mon a b ha hb _ _ _=>
  obtain ⟨g1,l1⟩:=hg a (.inl (by simp))
  obtain ⟨g2,l2⟩:=hg b (.inl (by simp))
  rw [zmT];simp only [List.map,zdA,q27,List.getD_cons_succ,show ¬ (1:Int)=0 by decide,if_false,if_true]
  rw [show ByteArray.mk #[(109:UInt8),(111:UInt8),(110:UInt8),(117:UInt8),(115:UInt8),(91:UInt8)]=bs [109,111,110,117,115,91] from rfl,show ByteArray.mk #[(44:UInt8),(32:UInt8)]=bs [44,32] from rfl,show ByteArray.mk #[(93:UInt8)]=bs [93] from rfl]
  simp only [q7,q9,Wy.fin_i,Wy.fin_bn,Wy.fin_k,show ((1:Int)==0)=false from rfl,show ((1:Int)==1)=true from rfl,show (decide ((0:Int)<=0)&&decide ((0:Int)<Int.ofNat [a,b].length))=true from rfl,show (decide ((0:Int)<=1)&&decide ((1:Int)<Int.ofNat [a,b].length))=true from rfl,show [a,b].getD (Int.toNat 0) default=a from rfl,show [a,b].getD (Int.toNat 1) default=b from rfl,g1,g2,zEK,zvg,qf,qc,qv]
  rw [okS _ _ (by omega),okS _ _ (by omega),okS _ _ (by omega),okS _ _ (by omega)]
  simp
 | del a ha _ _ _=>
  obtain ⟨g1,l1⟩:=hg a (.inl (by simp))
  rw [zmT];simp only [List.map,zdA,q27,show ¬ (2:Int)=0 by decide,show ¬ (2:Int)=1 by decide,if_false,if_true]
  rw [show ByteArray.mk #[(100:UInt8),(101:UInt8),(108:UInt8),(116:UInt8),(97:UInt8),(91:UInt8)]=bs [100,101,108,116,97,91] from rfl,show ByteArray.mk #[(93:UInt8)]=bs [93] from rfl]
  simp only [q7,q9,Wy.fin_i,Wy.fin_bn,Wy.fin_k,show ((2:Int)==0)=false from rfl,show ((2:Int)==1)=false from rfl,show ((2:Int)==2)=true from rfl,show (decide ((0:Int)<=0)&&decide ((0:Int)<Int.ofNat [a].length))=true from rfl,show [a].getD (Int.toNat 0) default=a from rfl,g1,zEK,zvg,qf,qc,qv]
  rw [okS _ _ (by omega),okS _ _ (by omega)]
  simp
 | abs a ha _ _=>
  obtain ⟨g1,l1⟩:=hg a (.inl (by simp))
  rw [zmT];simp only [List.map,zdA,q27,show ¬ (3:Int)=0 by decide,show ¬ (3:Int)=1 by decide,show ¬ (3:Int)=2 by decide,if_false,if_true]
  rw [show ByteArray.mk #[(97:UInt8),(98:UInt8),(115:UInt8),(101:UInt8),(110:UInt8),(116:UInt8),(91:UInt8)]=bs [97,98,115,101,110,116,91] from rfl,show ByteArray.mk #[(93:UInt8)]=bs [93] from rfl]
  simp only [q7,q9,Wy.fin_i,Wy.fin_bn,Wy.fin_k,show ((3:Int)==0)=false from rfl,show ((3:Int)==1)=false from rfl,show ((3:Int)==2)=false from rfl,show ((3:Int)==3)=true from rfl,show (decide ((0:Int)<=0)&&decide ((0:Int)<Int.ofNat [a].length))=true from rfl,show [a].getD (Int.toNat 0) default=a from rfl,g1,zEK,zvg,qf,qc,qv]
  rw [okS _ _ (by omega),okS _ _ (by omega)]
  simp
 | tst f l o b hl hv hs hf=>
  obtain ⟨⟨f0,f3,o5,o10⟩,hb,hit⟩:=ztR hf;have hwl:=zga W.2.1.1;have hwb:rng b.Int:=zmZ W.2.2.1.2.1
  have:=zcs (W:=zny gT) (z:=default) l.length (λi=>((),(),l,(l.length:Int),(i:Int),())) (λi=>((⟨4,⟨0,0⟩,[],f,l,o,b⟩:At),(l.take i).map λw=>bs (txI w),())) (λ_=>true) default ((⟨4,⟨0,0⟩,[],f,l,o,b⟩:At),l.map λw=>bs (txI w))
   (λi hi' H K D=>by
    show (zgh gT l l.length i (⟨4,⟨0,0⟩,[],f,l,o,b⟩:At) ((l.take i).map λw=>bs (txI w))).ev H K D=_
    unfold zgh Wy.ix;have hm:=zm hi';obtain ⟨g1,l1⟩:=hg _ (.inr ⟨_,hm,rfl⟩);have l2:=zTc (hit _ hm).1;rw [show ByteArray.mk #[(58:UInt8),(32:UInt8)]=bs [58,32] from rfl]
    simp only [Wy.ev_i,Wy.ev_k,Wy.ev_h,Wy.ev_bn,Wy.ev_d,tT,hi',zbdV (hit _ hm).1 (zmZ (hwl _ hm).1.2.1),g1,zEK,zvg,qf,qc,qv];rw [okS _ _ (by omega),okS _ _ (by omega),zu (by simp only at hi; omega),zkE hi',q2g]
    have hb:decide ((((l.take i).map λw=>bs (txI w)).length+1)*16<=zD)=true:=by simp only at hi; simp only [qb,q1b,q15]; omega
    generalize ((l.take i).map λw=>bs (txI w))=out at hb ⊢
    have hb':decide ((out.length+(0+1))*16<=zD)=true:=hb;simp only [hb,hb',q7,q1q,List.map_nil,txI,qu])
   (λH K D=>by
    show (zgh gT l l.length l.length (⟨4,⟨0,0⟩,[],f,l,o,b⟩:At) ((l.take l.length).map λw=>bs (txI w))).ev H K D=_
    unfold zgh Wy.ix;simp only [Wy.ev_i,Wy.ev_k,tT,qr,q2v]) (l.length+(Int.ofNat l.length).toNat +Int.toNat (0:Int)+([]:yA).length+l.length+(0:Nat)+(1:Nat)) (by omega)
  rw [show zd5 (λ_=>true) l.length 0=true from zdU.2 λ_ _ _=>rfl] at this
  have e:zwp gT (l.length+(Int.ofNat l.length).toNat +Int.toNat (0:Int)+([]:yA).length+l.length+(0:Nat)+(1:Nat)) l (Int.ofNat l.length) (0:Int) (⟨4,⟨0,0⟩,[],f,l,o,b⟩:At) []=(true,((⟨4,⟨0,0⟩,[],f,l,o,b⟩:At),(l.map txI).map bs)):=by rw [List.map_map]; exact this
  simp only at hi
  have hlen:(zeX (l.map txI) [59,32]).length<=5000000000000:=by
   refine q18 (zZ0 (B:=4200001000) (l.map txI) [59,32] λy hy=> ?_) (by
    rw [q1b]; have:=q1z hi (qn 4200001000); omega)
   obtain ⟨w,hw,rfl⟩:=q1p.1 hy;have h1:=(hg _ (.inr ⟨w,hw,rfl⟩)).2;have h2:=zTc (hit w hw).1;simp only [txI,qf,qc,qv]; omega
  have l3:=zbfL f;have l4:=zbfB o;have l5:=zTc hb;rw [zMa];simp only [zdA,show ¬ (4:Int)=0 by decide,show ¬ (4:Int)=1 by decide,show ¬ (4:Int)=2 by decide,show ¬ (4:Int)=3 by decide,if_false]
  rw [show ByteArray.mk #[(116:UInt8),(101:UInt8),(115:UInt8),(116:UInt8),(91:UInt8)]=bs [116,101,115,116,91] from rfl,show ByteArray.mk #[(123:UInt8)]=bs [123] from rfl,show ByteArray.mk #[(125:UInt8),(32:UInt8)]=bs [125,32] from rfl,show ByteArray.mk #[(59:UInt8),(32:UInt8)]=bs [59,32] from rfl,show ByteArray.mk #[(32:UInt8)]=bs [32] from rfl,show ByteArray.mk #[(93:UInt8)]=bs [93] from rfl]
  simp only [Wy.fin_i,show ((4:Int)==0)=false from rfl,show ((4:Int)==1)=false from rfl,show ((4:Int)==2)=false from rfl,show ((4:Int)==3)=false from rfl,q9]
  unfold strings_Join;obtain ⟨fb,ft⟩:=zbke f0 f3;obtain ⟨ob,ot⟩:=zbkH o5 o10;rw [e,z0N];simp only [Wy.fin_i,Wy.fin_k,Wy.fin_bn,fb,ft,ob,ot,z3P _ _ (show (l.map txI).length<=140737488355328 by rw [q1b]; omega) (show (zeX (l.map txI) [59,32]).length<=140737488355328 by omega),zbdV hb hwb,q7,zEK,zvg,qf,qc,qv]
  rw [okS _ _ (by omega),okS _ _ (by omega),okS _ _ (by omega),okS _ _ (by omega),okS _ _ (by omega),okS _ _ (by omega),okS _ _ (by omega),okS _ _ (by omega)]
  simp
end
end Go.Proofs.YtoknknbmfmddbaaGreatDoor
end
