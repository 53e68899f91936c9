/- Texts of this claim, joined (the program, its functions in plain words, and what they compute). -/
import Derived.Test.YtoknknbmfmddbaaGreatDoorGC13
set_option autoImplicit false
set_option linter.unusedVariables false
set_option linter.unusedSectionVars false
set_option linter.unusedSimpArgs false
set_option maxRecDepth 1000000
set_option maxHeartbeats 0
/- Relations: what a normal form holds. -/
set_option maxRecDepth 100000
noncomputable section
namespace Go.Proofs.YtoknknbmfmddbaaGreatDoor
open Go Go.Ab
theorem zZ4 (l:yG) (v:yH) (hl:l.length<=1000000) (h:∀ x∈l,x.Values.length<=1000000/\okA x.Ann):∀ (n i:Nat),l.length<i+n->i<=l.length->
  ∃ r,zH1 n v l l.length i=(true,r)/\(bif isL r then getL r else [])=fnd (l.drop i) v
 | 0,i,h1,h2=>by omega
 | n+1,i,h1,h2=>by
  show ∃ r,(zy6 v l l.length i).ev (zD zyQ (.inl default) n) (λr=>(true,r)) (false,.inl default)=(true,r)/\_
  unfold zy6;by_cases hi:i<l.length
  ·obtain ⟨k1,k2⟩:=h _ (zT hi);have e0:(zO5 (l.getD i default).Values v==(0:Int))=decide ((l.getD i default).Values=v):=by rw [zLD,decide_eq_decide]; exact zW7 _ _
   simp only [Wy.ev_i,Wy.ev_k,Wy.ev_h,Wy.ev_bn,Wy.ev_d,tT,hi,zPu _ v k1,e0,z7A k2,zbe (show i<4611686018427387904 by omega)]
   rw [z6 hi,fnd];by_cases e:(l.getD i default).Values=v
   ·rw [decide_eq_true e,if_pos e]; exact ⟨_,rfl,rfl⟩
   ·rw [decide_eq_false e,if_neg e];exact zZ4 l v hl h n (i+1) (by omega) (by omega)
  ·simp only [Wy.ev_i,Wy.ev_k,Wy.ev_h,Wy.ev_bn,Wy.ev_d,tT,hi,zc9 hi];exact ⟨_,rfl,rfl⟩
theorem z8B (r:Relation) (v:yH) (hl:r.Rows.length<=1000000) (h:∀ x∈r.Rows,x.Values.length<=1000000/\okA x.Ann):zuu r v=(true,fnd r.Rows v):=by
 unfold zuu zJU;obtain ⟨q,h1,h2⟩:=zZ4 r.Rows v hl h (v.length+r.Rows.length+(Int.ofNat r.Rows.length).toNat +Int.toNat (0:Int)+(1000:Nat)) 0 (by omega) (by omega)
 rw [show ((0:Nat):Int)=(0:Int) from rfl] at h1
 rw [show (r.Rows.length:Int)=Int.ofNat r.Rows.length from rfl] at h1
 rw [List.drop_zero] at h2;rw [Wy.fin_bn,h1,cond_true, <- h2];cases q <;>rfl
end Go.Proofs.YtoknknbmfmddbaaGreatDoor
/- The law of Find and Variables. -/
set_option maxRecDepth 100000
namespace Go.Proofs.YtoknknbmfmddbaaGreatDoor
open Go Go.Ab
def zqL:yG->yE
 | []=>[]
 | x::r=>zfE x.Ann++zqL r
theorem zYf:∀ (l:yG) (o:yE),l.foldl (λo x=>o++zfE x.Ann) o=o++zqL l
 | [],o=>by rw [zqL]; simp
 | x::r,o=>by rw [List.foldl_cons,zYf r,zqL,List.append_assoc]
theorem zXZ:∀ (l:yG) (o:yE),nI (l.foldl (λo x=>o++vars x.Ann) o)=nI (o++zqL l)
 | [],o=>by rw [zqL]; simp
 | x::r,o=>by
  rw [List.foldl_cons,zXZ r,zqL];refine z3r zik λz=> ?_
  unfold vars;simp only [List.mem_append,zwh zik];exact or_assoc
structure vrOK (r:Relation):Prop where
 rows:r.Rows.length<=100
 row:∀ x∈r.Rows,okA x.Ann/\zbq x.Ann<=100
theorem zWa {a:yB} (h:zbq a<=100):(vars a).length<=100:=by
 have h1:=zDh (zfE a);have h2:=zlH a;show (nI (zfE a)).length<=100;omega
theorem z4M {r:Relation} (h:vrOK r):zlI r=(true,nI (zqL r.Rows)):=by
 have hreach:zbm=70368744177664:=rfl;have hr:=h.rows
 have hh:=λn hn=>zED (W:=zsa) (z:=default) r.Rows (λi o=>((),r.Rows,(r.Rows.length:Int),(i:Int),())) (λ_ o=>(o,())) (λo x=>o++vars x.Ann) (λo=>o) (λi o=>o.length<=100*i)
  (λi o hi hI=>by
   obtain ⟨oa,ht⟩:=h.row _ (zT hi);have e:=z8w oa.1.1 (by omega) (show zbq (r.Rows.getD i default).Ann<=300000 by omega)
   have hl:=zWa ht;have hb:decide ((o.length+(vars (r.Rows.getD i default).Ann).length)*16<=zbm)=true:=decide_eq_true (by omega)
   refine ⟨by rw [qg]; omega,λH K D=> ?_⟩
   show (ziK r.Rows r.Rows.length i o).ev H K D=_;unfold ziK;simp only [Wy.ev_i,Wy.ev_k,Wy.ev_h,Wy.ev_bn,Wy.ev_d,tT,hi,e,hb,cond_true,zbe (show i<4611686018427387904 by omega)])
  (λo hI H K D=>by
   show (ziK r.Rows r.Rows.length r.Rows.length o).ev H K D=_;unfold ziK;simp only [Wy.ev_i,Wy.ev_k,tT,Nat.lt_irrefl]) n [] hn (by simp)
 have hh:∀ n,r.Rows.length<n->zzo n r.Rows r.Rows.length 0 []=_:=hh
 have hL:∀ (l:yG) (o:yE),(∀ x∈l,zbq x.Ann<=100)->(l.foldl (λo x=>o++vars x.Ann) o).length<=o.length+100*l.length:=by
  intro l;induction l with
  | nil=>intro o _; simp
  | cons x l ih=>
   intro o hx;rw [List.foldl_cons,qf];have h1:=ih (o++vars x.Ann) λy hy=>hx y (by simp [hy])
   rw [qg] at h1;have h2:=zWa (hx x (by simp))
   omega
 have hl:=hL r.Rows [] λx hx=>(h.row x hx).2
 rw [List.length_nil] at hl;have e2:=zB8 (r.Rows.foldl (λo x=>o++vars x.Ann) []) (by omega)
 rw [zXZ,List.nil_append] at e2;unfold zlI zAi;rw [Int.ofNat_eq_natCast,Wy.fin_bn,hh _ (by omega),cond_true,Wy.fin_bn,e2]; rfl
theorem z3i {r:Relation} (h:vrOK r):zqB r=(true,nI (zqL r.Rows)):=by
 have hr:=h.rows
 have hh:=λn hn=>zED (W:=zwo) (z:=default) r.Rows (λi L=>((),nI L,(i:Int),())) (λ_ _=>(r,())) (λL x=>L++zfE x.Ann) (λL=>nI L) (λi L=>L.length<=100*i)
  (λi L hi hI=>by
   obtain ⟨oa,ht⟩:=h.row _ (zT hi);have e:=z7w oa.1.1 (by omega) (show zbq (r.Rows.getD i default).Ann<=300000 by omega)
   have hl:=zWa ht;have hv:=zlH (r.Rows.getD i default).Ann;have l1:=zDh L;have er:=zV6 (nI L) (vars (r.Rows.getD i default).Ann) (by omega) (by omega)
   have ei:(vars (r.Rows.getD i default).Ann).foldl (λo x=>zoS cI x o) (nI L)=nI (L++zfE (r.Rows.getD i default).Ann):=z2m _ _
   rw [ei] at er;refine ⟨by rw [qg]; omega,λH K D=> ?_⟩
   show (zlL (nI L) i r).ev H K D=_;unfold zlL;simp only [Wy.ev_i,Wy.ev_k,Wy.ev_h,Wy.ev_bn,Wy.ev_d,tT,hi,e,er,cond_true,zbe (show i<4611686018427387904 by omega)])
  (λL hI H K D=>by
   show (zlL (nI L) r.Rows.length r).ev H K D=_;unfold zlL;simp only [Wy.ev_i,Wy.ev_k,tT,Nat.lt_irrefl]) n [] hn (by simp)
 have hh:∀ n,r.Rows.length<n->zDs n [] 0 r=(true,nI (r.Rows.foldl (λL x=>L++zfE x.Ann) [])):=hh
 rw [zYf,List.nil_append] at hh;unfold zqB zFJ;rw [Wy.fin_bn,hh _ (by omega)]; rfl
theorem zXG (r:Relation) (v:yH) (hl:r.Rows.length<=1000000) (h:∀ x∈r.Rows,x.Values.length<=1000000):∀ (n i:Nat),r.Rows.length<i+n->i<=r.Rows.length->
  ∃ q,zPV n v i r=(true,q)/\(bif isL q then getL q else [])=fnd (r.Rows.drop i) v
 | 0,i,h1,h2=>by omega
 | n+1,i,h1,h2=>by
  show ∃ q,(zFk v i r).ev (zD zEE (.inl default) n) (λr=>(true,r)) (false,.inl default)=(true,q)/\_
  unfold zFk;by_cases hi:i<r.Rows.length
  ·have k1:=h _ (zT hi);obtain ⟨q,q1,q2⟩:=zXG r v hl h n (i+1) (by omega) (by omega)
   simp only [Wy.ev_i,Wy.ev_k,Wy.ev_h,Wy.ev_bn,Wy.ev_d,tT,hi,z0q _ v k1,zbe (show i<4611686018427387904 by omega)]
   rw [z6 hi,fnd];by_cases e:(r.Rows.getD i default).Values=v
   ·rw [decide_eq_true e,if_pos e]; exact ⟨_,rfl,rfl⟩
   ·rw [decide_eq_false e,if_neg e]; exact ⟨q,q1,q2⟩
  ·simp only [Wy.ev_i,Wy.ev_k,Wy.ev_h,Wy.ev_bn,Wy.ev_d,tT,hi,zc9 hi];exact ⟨_,rfl,rfl⟩
theorem z7Q (r:Relation) (v:yH) (hl:r.Rows.length<=1000000) (h:∀ x∈r.Rows,x.Values.length<=1000000):zAU r v=(true,fnd r.Rows v):=by
 unfold zAU zS2;obtain ⟨q,h1,h2⟩:=zXG r v hl h (v.length+Int.toNat (0:Int)+r.Columns.length+r.Rows.length+(1:Nat)) 0 (by omega) (by omega)
 rw [show ((0:Nat):Int)=(0:Int) from rfl] at h1
 rw [List.drop_zero] at h2;rw [Wy.fin_bn,h1,cond_true, <- h2];cases q <;>rfl
theorem z3F:∀ {M:yG} (v:yH),(∀ x∈M,okA x.Ann)->okA (fnd M v)
 | [],v,_=>zqh
 | x::M,v,h=>by
  rw [fnd];split
  ·exact h x (by simp)
  ·exact z3F v λy hy=>h y (by simp [hy])
theorem z2F (r:Relation) (values:yH) (hr:z4y r) (hv:z5f values):zho r values=(true,true):=by
 have l9:∀ (l:yE),l.length<=1000000->∀ n,l.length<n->zw9 n values l 0 r l=(true,.inr (values,r)):=λl hl n hn=>by
  have hh:=zED (W:=zpW) (z:=.inl default) l (λi (_:Unit)=>(values,(),(),l,(i:Int),())) (λ_ _=>(r,l,())) (λu _=>u) (λ_=>.inr (values,r)) (λ_ _=>True)
   (λi u hi _=>⟨trivial,λH K D=>by
    show (zhJ values l i r l).ev H K D=_;unfold zhJ;simp only [Wy.ev_i,Wy.ev_k,Wy.ev_h,Wy.ev_bn,Wy.ev_d,tT,hi,beq_self_eq_true,Bool.and_self,cond_true,cond_false,Bool.not_true,zbe (show i<4611686018427387904 by omega)]⟩)
   (λu _ H K D=>by
    show (zhJ values l l.length r l).ev H K D=_;unfold zhJ;simp only [Wy.ev_i,Wy.ev_k,tT,Nat.lt_irrefl]) n () hn trivial
  exact hh
 have l8:∀ (l:yE),l.length<=1000000->r.Rows.length<=1000000->(∀ x∈r.Rows,x.Values.length<=1000000/\okA x.Ann)->zxn 1 values l r l=(true,true):=λl hl hrl hx=>by
  show (zp7 values l r l).ev (zD zpT default 0) (λr=>(true,r)) (false,default)=_
  unfold zp7;have h1:=z8B r values hrl hx;have h2:=z7Q r values hrl λx hm=>(hx x hm).1
  have h3:=z0I (z3F values λx hm=>(hx x hm).2).1.1 (by omega) (fnd r.Rows values)
  rw [decide_eq_true rfl] at h3;rw [Wy.ev_bn,l9 l hl _ (by omega),cond_true]
  simp only [Wy.ev_i,Wy.ev_bn,Wy.ev_k,isL,getR,cond_false,cond_true,h1,h2,h3]
 have l5:vrOK r->(∀ x∈r.Rows,x.Values.length<=1000000/\okA x.Ann)->zxj 1 values r=(true,true):=λh hx=>by
  show (zpJ values r).ev (zD zpG default 0) (λr=>(true,r)) (false,default)=_
  unfold zpJ;have hrr:=h.rows
  have hL:∀ (l:yG),(∀ x∈l,zbq x.Ann<=100)->(zqL l).length<=100*l.length:=by
   intro l;induction l with
   | nil=>intro _; simp [zqL]
   | cons x l ih=>
    intro hx;rw [zqL,qg,qf];have h1:=ih λy hy=>hx y (by simp [hy])
    have h2:=zlH x.Ann;have h3:=hx x (by simp)
    omega
  have hl:=hL r.Rows λx hm=>(h.row x hm).2
  have hn:=zDh (zqL r.Rows);have e8:=l8 (nI (zqL r.Rows)) (by omega) (by omega) hx
  have en:∀ x:Int,(x != x)=false:=λx=>by simp
  simp only [Wy.ev_i,Wy.ev_bn,Wy.ev_k,z4M h,z3i h,cond_true,en,cond_false,e8]
 have l3:zxk 1 values r=(true,true):=by
  show (zpZ values r).ev (zD zpQ default 0) (λr=>(true,r)) (false,default)=_
  unfold zpZ
  obtain ⟨q,q1,q2⟩:=zba8 8 30 [r] (by omega) (by omega) (by simp) (λx hx=>by
   rw [qh] at hx; subst hx; exact hr)
  replace q1:zzp (8:Int) (30:Int) [r]=(true,q):=q1;rw [Wy.ev_bn,q1,cond_true,Wy.ev_i];cases q with
  | false=>rfl
  | true=>
   have ka:=q2 rfl r (by simp)
   obtain ⟨b,b1,b2⟩:=z1b values 20 hv.2;replace b1:zn8 values (20:Int)=(true,b):=b1;rw [Bool.not_true,cond_false,Wy.ev_bn,b1,cond_true,Wy.ev_i];cases b with
   | false=>rfl
   | true=>
    have e5:=l5 ⟨by have:=ka.rows; omega,λx hx=>⟨(ka.row x hx).2.1,by have:=(ka.row x hx).2.2; omega⟩⟩ λx hx=>⟨by have:=(ka.row x hx).1.1; omega,(ka.row x hx).2.1⟩
    rw [Bool.not_true,cond_false,Wy.ev_bn,e5]; rfl
 unfold zho zxT;rw [Wy.fin_bn,l3]; rfl
end Go.Proofs.YtoknknbmfmddbaaGreatDoor
end
