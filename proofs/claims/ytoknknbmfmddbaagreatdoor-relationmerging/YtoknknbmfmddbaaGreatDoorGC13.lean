/- Texts of this claim, joined (the program, its functions in plain words, and what they compute). -/
import Derived.Test.YtoknknbmfmddbaaGreatDoorGC12
set_option autoImplicit false
set_option linter.unusedVariables false
set_option linter.unusedSectionVars false
set_option linter.unusedSimpArgs false
set_option maxRecDepth 1000000
set_option maxHeartbeats 0
/- Relations: what a normal form holds. -/
set_option maxRecDepth 100000
noncomputable section
namespace Go.Proofs.YtoknknbmfmddbaaGreatDoor
open Go Go.Ab
theorem z03 (l:yF) (v:yG) (hl:l.length<=1000000) (h:∀ x∈l,x.Values.length<=1000000/\okA x.Ann):∀ (n i:Nat),l.length<i+n->i<=l.length->
  ∃ r,zI7 n v l l.length i=(true,r)/\(bif isL r then getL r else [])=fnd (l.drop i) v
 | 0,i,h1,h2=>by omega
 | n+1,i,h1,h2=>by
  show ∃ r,(zAa v l l.length i).ev (zx zz0 (.inl default) n) (λr=>(true,r)) (false,.inl default)=(true,r)/\_
  unfold zAa;by_cases hi:i<l.length
  ·obtain ⟨k1,k2⟩:=h _ (zm hi);have e0:(ztA (l.getD i default).Values v==(0:Int))=decide ((l.getD i default).Values=v):=by rw [zf8,decide_eq_decide]; exact zBK _ _
   simp only [Wy.ev_i,Wy.ev_k,Wy.ev_h,Wy.ev_bn,Wy.ev_d,tT,hi,zBt _ v k1,e0,z9z k2,zy (show i<4611686018427387904 by omega)]
   rw [zbh hi,fnd];by_cases e:(l.getD i default).Values=v
   ·rw [decide_eq_true e,if_pos e]; exact ⟨_,rfl,rfl⟩
   ·rw [decide_eq_false e,if_neg e];exact z03 l v hl h n (i+1) (by omega) (by omega)
  ·simp only [Wy.ev_i,Wy.ev_k,Wy.ev_h,Wy.ev_bn,Wy.ev_d,tT,hi,zcu hi];exact ⟨_,rfl,rfl⟩
theorem z52 (r:Relation) (v:yG) (hl:r.Rows.length<=1000000) (h:∀ x∈r.Rows,x.Values.length<=1000000/\okA x.Ann):zn6 r v=(true,fnd r.Rows v):=by
 unfold zn6 zLl;obtain ⟨q,h1,h2⟩:=z03 r.Rows v hl h (v.length+r.Rows.length+(Int.ofNat r.Rows.length).toNat +Int.toNat (0:Int)+(1000:Nat)) 0 (by omega) (by omega)
 rw [show ((0:Nat):Int)=(0:Int) from rfl] at h1
 rw [show (r.Rows.length:Int)=Int.ofNat r.Rows.length from rfl] at h1
 rw [List.drop_zero] at h2;rw [Wy.fin_bn,h1,cond_true, <- h2];cases q <;>rfl
theorem z3u (r:Relation) (v:yG) (hl:r.Rows.length<=1000000) (h:∀ x∈r.Rows,x.Values.length<=1000000):∀ (n i:Nat),r.Rows.length<i+n->i<=r.Rows.length->
  zSz n v i r=(true,bif (r.Rows.drop i).any (λx=>decide (x.Values=v)&&zc8 x) then .inl true else .inr ())
 | 0,i,h1,h2=>by omega
 | n+1,i,h1,h2=>by
  show (zIy v i r).ev (zx zIB (.inl default) n) (λr=>(true,r)) (false,.inl default)=_
  unfold zIy;by_cases hi:i<r.Rows.length
  ·have k1:=h _ (zm hi)
   have e0:decide (((r.Rows.getD i default).Ann.length:Int)>(0:Int))=zc8 (r.Rows.getD i default):=by
    unfold zc8;rw [show decide (((r.Rows.getD i default).Ann.length:Int)>(0:Int))=decide ((r.Rows.getD i default).Ann.length>0) from zjQ _ 0]
    cases (r.Rows.getD i default).Ann <;>rfl
   have ih:=z3u r v hl h n (i+1) (by omega) (by omega)
   simp only [Wy.ev_i,Wy.ev_k,Wy.ev_h,Wy.ev_bn,Wy.ev_d,tT,hi,zQ6 _ v k1,e0,zy (show i<4611686018427387904 by omega)]
   rw [zbh hi,List.any_cons];cases decide ((r.Rows.getD i default).Values=v) with
   | false=>exact ih
   | true=>
    cases zc8 (r.Rows.getD i default) with
    | true=>rfl
    | false=>exact ih
  ·simp only [Wy.ev_i,Wy.ev_k,Wy.ev_h,Wy.ev_bn,Wy.ev_d,tT,hi,zcu hi];rfl
theorem zbcJ (r:Relation) (v:yG) (hl:r.Rows.length<=1000000) (h:∀ x∈r.Rows,x.Values.length<=1000000):zAH r v=(true,r.Rows.any λx=>decide (x.Values=v)&&zc8 x):=by
 unfold zAH zWE;have h1:=z3u r v hl h (v.length+Int.toNat (0:Int)+r.Columns.length+r.Rows.length+(1:Nat)) 0 (by omega) (by omega)
 rw [show ((0:Nat):Int)=(0:Int) from rfl,List.drop_zero] at h1
 rw [Wy.fin_bn,h1,cond_true];cases r.Rows.any λx=>decide (x.Values=v)&&zc8 x <;>rfl
def zqX (l M:yF):Option (yF):=l.foldl (λo x=>o.bind λM=>zd3 cR zc5 M x) (some M)
theorem z84:∀ {M N:yF} {x:Row},(∀ w∈M,zhb w)->(∀ w∈M,w.Ann≠[])->x.Ann≠[]->zd3 cR zc5 M x=some N->∀ w∈N,w.Ann≠[]
 | [],N,x,_,_,hx,h,w,hw=>by
  rw [zd3,qa] at h;subst h;rw [qh.1 hw]; exact hx
 | y::M,N,x,k,u,hx,h,w,hw=>by
  have k':∀ w∈M,zhb w:=λw hw=>k w (by simp [hw])
  have u':∀ w∈M,w.Ann≠[]:=λw hw=>u w (by simp [hw])
  rw [zd3] at h;split at h
  ·cases e:zd3 cR zc5 M x with
   | none=>rw [e] at h; cases h
   | some K=>
    rw [e,Option.map_some,qa] at h;subst h;rcases qd.1 hw with rfl | hw
    ·exact u w (by simp)
    ·exact z84 k' u' hx e w hw
  ·split at h
   ·cases e:zc5 y x with
    | none=>rw [e] at h; cases h
    | some z=>
     rw [e,Option.map_some,qa] at h;subst h;rcases qd.1 hw with rfl | hw
     ·rw [(zD2 e).1];exact λe2=>hx (zbdO (zDE (k y (by simp)).2.2).1 e2).2
     ·exact u' w hw
   ·rw [qa] at h;subst h;rcases qd.1 hw with rfl | hw
    ·exact hx
    ·exact u w hw
theorem z58:∀ {l M N:yF},(∀ w∈M,zhb w)->(∀ w∈M,w.Ann≠[])->(∀ x∈l,zhb x/\x.Ann≠[])->zqX l M=some N->∀ w∈N,w.Ann≠[]
 | [],M,N,_,u,_,h=>by
  unfold zqX at h;rw [List.foldl_nil,qa] at h;subst h; exact u
 | x::l,M,N,k,u,hl,h=>by
  have hx:=hl x (by simp)
  unfold zqX at h;rw [List.foldl_cons,Option.bind_some] at h;cases e:zd3 cR zc5 M x with
  | none=>rw [e,zFA] at h; cases h
  | some K=>
   rw [e] at h;exact z58 (zZS k hx.1 e) (z84 k u hx.2 e) (λy hy=>hl y (by simp [hy])) h
theorem z5v {l1 l2 M N:yF} (h:zqX (l1++l2) M=some N):∃ K,zqX l1 M=some K:=by
 unfold zqX at h ⊢;rw [List.foldl_append] at h;cases e:l1.foldl (λo x=>o.bind λM=>zd3 cR zc5 M x) (some M) with
 | none=>rw [e,zFA] at h; cases h
 | some K=>exact ⟨K,rfl⟩
def zCm (l:yF) (v:yG):yB:=(l.filter λx=>decide (x.Values=v)).foldl (λs x=>zcp s x.Ann) []
theorem zJs (v:yG):∀ (l:yF) (s:yB),((l.filter zc8).filter λx=>decide (x.Values=v)).foldl (λs x=>zcp s x.Ann) s=(l.filter λx=>decide (x.Values=v)).foldl (λs x=>zcp s x.Ann) s
 | [],s=>rfl
 | x::l,s=>by
  rw [List.filter_cons,List.filter_cons (xs:=l)];cases hx:zc8 x with
  | true=>
   rw [if_pos rfl,List.filter_cons];by_cases e:x.Values=v
   ·rw [decide_eq_true e,if_pos rfl,if_pos rfl,List.foldl_cons,List.foldl_cons]; exact zJs v l _
   ·rw [decide_eq_false e,if_neg (by simp),if_neg (by simp)]; exact zJs v l s
  | false=>
   rw [if_neg (by simp)]
   by_cases e:x.Values=v
   ·rw [decide_eq_true e,if_pos rfl,List.foldl_cons]
    have:x.Ann=[]:=by
     unfold zc8 at hx;cases ha:x.Ann with
     | nil=>rfl
     | cons t r=>rw [ha] at hx; cases hx
    rw [this];exact zJs v l s
   ·rw [decide_eq_false e,if_neg (by simp)]; exact zJs v l s
theorem zFm {l N:yF} (hl:∀ x∈l,zhb x) (h:zqX (l.filter zc8) []=some N):NF N/\(∀ v,fnd N v=zCm l v)/\∀ w∈N,∃ x∈l,x.Values=w.Values/\zc8 x=true:=by
 have hf:∀ x∈l.filter zc8,zhb x:=λx hx=>hl x (List.mem_filter.1 hx).1
 obtain ⟨h1,h2,h3,h4⟩:=z4X (M:=[]) .nil (λw hw=>by cases hw) hf h
 refine ⟨⟨h1,h2,z58 (M:=[]) (λw hw=>by cases hw) (λw hw=>by cases hw) (λx hx=>⟨hf x hx,zZ4.1 (List.mem_filter.1 hx).2⟩) h⟩,λv=>by rw [h3]; exact zJs v l [],λw hw=> ?_⟩
 rcases h4 w hw with ⟨x,x1,x2⟩ | ⟨x,x1,_⟩
 ·exact ⟨x,(List.mem_filter.1 x1).1,x2,(List.mem_filter.1 x1).2⟩
 ·cases x1
theorem zZl {l1 l2 N:yF} (hl:∀ x∈l1++l2,zhb x) (h:zqX ((l1++l2).filter zc8) []=some N) (v:yG):okA (zCm l1 v)/\zS (zCm l1 v)=true:=by
 rw [List.filter_append] at h;obtain ⟨K,hK⟩:=z5v h;obtain ⟨k1,k2,_⟩:=zFm (λx hx=>hl x (by simp [hx])) hK
 rw [<- k2];refine ⟨?_,z0Y v k1.ok⟩;by_cases e:fnd K v=[]
 ·rw [e]; exact zk5
 ·obtain ⟨w,w1,_,w3⟩:=zWW e;rw [<- w3]; exact (k1.ok w w1).2.1
theorem z80 {v:yG}:∀ {l l':yF} {s:yB},l.Perm l'->PA s->(∀ x∈l,PA x.Ann)->(l.filter λx=>decide (x.Values=v)).foldl (λs x=>zcp s x.Ann) s=(l'.filter λx=>decide (x.Values=v)).foldl (λs x=>zcp s x.Ann) s:=by
 intro l l' s p;induction p generalizing s with
 | nil=>intro _ _; rfl
 | cons x p ih=>
  intro hs h;rw [List.filter_cons,List.filter_cons];by_cases e:x.Values=v
  ·rw [decide_eq_true e,if_pos rfl,if_pos rfl,List.foldl_cons,List.foldl_cons];exact ih (zm0 hs (h x (by simp))) λy hy=>h y (by simp [hy])
  ·rw [decide_eq_false e,if_neg (by simp),if_neg (by simp)]
   exact ih hs λy hy=>h y (by simp [hy])
 | swap x y l=>
  intro hs h;have hx:=h x (by simp)
  have hy:=h y (by simp)
  simp only [List.filter_cons];by_cases ex:x.Values=v
  ·by_cases ey:y.Values=v
   ·simp only [decide_eq_true ex,decide_eq_true ey,if_true,List.foldl_cons];rw [z1G hs hy hx,zban hy hx, <- z1G hs hx hy]
   ·simp only [decide_eq_true ex,decide_eq_false ey,if_true,Bool.false_eq_true,if_false,List.foldl_cons]
  ·by_cases ey:y.Values=v
   ·simp only [decide_eq_false ex,decide_eq_true ey,if_true,Bool.false_eq_true,if_false,List.foldl_cons]
   ·simp only [decide_eq_false ex,decide_eq_false ey,Bool.false_eq_true,if_false]
 | trans p q ih1 ih2=>
  intro hs h;rw [ih1 hs h,ih2 hs λx hx=>h x (p.mem_iff.2 hx)]
end Go.Proofs.YtoknknbmfmddbaaGreatDoor
/- The law of merging. -/
set_option maxRecDepth 100000
namespace Go.Proofs.YtoknknbmfmddbaaGreatDoor
open Go Go.Ab
theorem zVb {n t i:Nat} (hi:i<n):(i+t) % n=if i+t % n<n then i+t % n else i+t % n - n:=by
 have h0:t % n<n:=Nat.mod_lt _ (by omega)
 have h1:(i+t) % n=(i+t % n) % n:=by rw [Nat.add_mod,Nat.mod_eq_of_lt hi]
 rw [h1];split
 ·rename_i h; exact Nat.mod_eq_of_lt h
 ·rename_i h;rw [Nat.mod_eq_sub_mod (by omega),Nat.mod_eq_of_lt (by omega)]
def zBL (l:yF) (t:Nat):yF:=(List.range l.length).map λi=>l.getD ((i+t) % l.length) default
theorem z5E (l:yF) (t:Nat):(zBL l t).Perm l:=by
 have h1:((List.range l.length).map λi=>(i+t) % l.length).Perm (List.range l.length):=by
  refine (List.perm_ext_iff_of_nodup ?_ List.nodup_range).2 λj=> ?_
  ·refine List.pairwise_map.2 (List.Pairwise.imp_of_mem ?_ List.nodup_range);intro a b ha hb hab e;have ha:=List.mem_range.1 ha;have hb:=List.mem_range.1 hb;have h0:t % l.length<l.length:=Nat.mod_lt _ (by omega)
   rw [zVb ha,zVb hb] at e;apply hab;split at e <;>split at e <;>omega
  ·constructor
   ·intro h;obtain ⟨i,hi,rfl⟩:=List.mem_map.1 h;exact List.mem_range.2 (Nat.mod_lt _ (by have:=List.mem_range.1 hi; omega))
   ·intro h;have hj:=List.mem_range.1 h;have h0:t % l.length<l.length:=Nat.mod_lt _ (by omega)
    by_cases e:t % l.length<=j
    ·refine List.mem_map.2 ⟨j - t % l.length,List.mem_range.2 (by omega), ?_⟩
     rw [zVb (by omega),if_pos (by omega)]; omega
    ·refine List.mem_map.2 ⟨j+l.length - t % l.length,List.mem_range.2 (by omega), ?_⟩
     rw [zVb (by omega),if_neg (by omega)]; omega
 have h2:l=(List.range l.length).map λi=>l.getD i default:=by
  refine List.ext_getElem (by simp) λi h1 h2=> ?_
  rw [List.getElem_map,List.getElem_range,List.getD_eq_getElem?_getD,List.getElem?_eq_getElem h1]; rfl
 have h3:=h1.map λi=>l.getD i default
 rw [List.map_map] at h3;rw [<- h2] at h3;exact h3
theorem z5p (l:yF) (t i:Nat):((List.range (i+1)).map λi=>l.getD ((i+t) % l.length) default)=((List.range i).map λi=>l.getD ((i+t) % l.length) default)++[l.getD ((i+t) % l.length) default]:=by
 rw [List.range_succ,List.map_append]; rfl
theorem zbaP (t:Nat) (ht:t<=255) (f:Int) (r x y:Relation) (cols:yH) (hl:r.Rows.length<=1000):∀ (n i:Nat),r.Rows.length<i+n->i<=r.Rows.length->
  zo6 n t f i r x y cols ((List.range i).map λi=>r.Rows.getD ((i+t) % r.Rows.length) default)=(true,(f,x,y,cols,zBL r.Rows t))
 | 0,i,h1,h2=>by omega
 | n+1,i,h1,h2=>by
  show (zoE t f i r x y cols ((List.range i).map λi=>r.Rows.getD ((i+t) % r.Rows.length) default)).ev (zx zpl default n) (λr=>(true,r)) (false,default)=_
  unfold zoE;by_cases hi:i<r.Rows.length
  ·have hm:(i+t) % r.Rows.length<r.Rows.length:=Nat.mod_lt _ (by omega)
   have w1:IntKind.i64.wrap ((t:Nat):Int)=(t:Int):=z9B (by omega)
   have w2:IntKind.i64.wrap ((i:Int)+(t:Int))=((i+t:Nat):Int):=by rw [ze5 (by omega) (by omega)]; omega
   have w3:(((i+t:Nat):Int)).tmod ((r.Rows.length:Nat):Int)=(((i+t) % r.Rows.length:Nat):Int):=by
    rw [Int.tmod_eq_emod_of_nonneg (by omega)]; exact (Int.natCast_emod _ _).symm
   have w4:decide (((r.Rows.length:Nat):Int)=(0:Int))=false:=decide_eq_false (by omega)
   have hb:∀ q:Row,decide ((((List.range i).map λi=>r.Rows.getD ((i+t) % r.Rows.length) default).length+[q].length)*(48:Nat)<=zI)=true:=λq=>decide_eq_true (zs1 (by simp; omega) (by omega))
   simp only [Wy.ev_i,Wy.ev_k,Wy.ev_h,Wy.ev_bn,Wy.ev_d,tT,hi,w1,w2,w3,w4,hm,hb,zy (show i<4611686018427387904 by omega), <- z5p]
   exact zbaP t ht f r x y cols hl n (i+1) (by omega) (by omega)
  ·have:i=r.Rows.length:=by omega
   subst this;simp only [Wy.ev_i,Wy.ev_k,Wy.ev_h,Wy.ev_bn,Wy.ev_d,tT,Nat.lt_irrefl];rfl
theorem z8q (l:yF) (v:yG) (k:Nat) (hk:k<l.length):zCm (l.take (k+1)) v=if (l.getD k default).Values=v then zcp (zCm (l.take k) v) (l.getD k default).Ann else zCm (l.take k) v:=by
 unfold zCm;rw [zgJ hk,List.filter_append,List.foldl_append];by_cases e:(l.getD k default).Values=v
 ·rw [if_pos e,List.filter_cons,decide_eq_true e,if_pos rfl]; rfl
 ·rw [if_neg e,List.filter_cons,decide_eq_false e,if_neg (by simp)]; rfl
theorem zbaY {r:Relation} {N:yF} (hl:r.Rows.length<=1000) (hr:∀ x∈r.Rows,zhb x) (h:zqX (r.Rows.filter zc8) []=some N) (turn:Int) (x:Relation) (i:Nat) (hi:i<r.Rows.length):∀ (n k:Nat),r.Rows.length<k+n->k<=r.Rows.length->
  zpo n turn i (zCm (r.Rows.take k) (r.Rows.getD i default).Values) k r x=(true,(turn,(i:Int),zCm r.Rows (r.Rows.getD i default).Values,r,x))
 | 0,k,h1,h2=>by omega
 | n+1,k,h1,h2=>by
  show (zpk turn i (zCm (r.Rows.take k) (r.Rows.getD i default).Values) k r x).ev (zx zpi default n) (λr=>(true,r)) (false,default)=_
  unfold zpk;by_cases hk:k<r.Rows.length
  ·have hx:=hr _ (zm hk);have ih:=zbaY hl hr h turn x i hi n (k+1) (by omega) (by omega)
   have hv:=zZl (l1:=r.Rows.take k) (l2:=r.Rows.drop k) (by rw [List.take_append_drop]; exact hr) (by rw [List.take_append_drop]; exact h) (r.Rows.getD i default).Values
   obtain ⟨s1,s2,s3⟩:=zs9 hv.2 hv.1.2.1;obtain ⟨t1,t2,t3⟩:=zs9 hx.2.2 hx.2.1.2.1;have hs:=z6L (zCm (r.Rows.take k) (r.Rows.getD i default).Values) (r.Rows.getD k default).Ann (λt ht=>(s3 t ht).1) (λt ht=>(t3 t ht).1) s1 s2 t2
   simp only [Wy.ev_i,Wy.ev_k,Wy.ev_h,Wy.ev_bn,Wy.ev_d,tT,hk,hi,zQ6 _ (r.Rows.getD i default).Values hx.1,hs,zy (show k<4611686018427387904 by omega)]
   rw [z8q _ _ _ hk] at ih;by_cases e:(r.Rows.getD k default).Values=(r.Rows.getD i default).Values
   ·rw [if_pos e] at ih;rw [decide_eq_true e]; exact ih
   ·rw [if_neg e] at ih;rw [decide_eq_false e]; exact ih
  ·have:k=r.Rows.length:=by omega
   subst this;simp only [Wy.ev_i,Wy.ev_k,Wy.ev_h,Wy.ev_bn,Wy.ev_d,tT,Nat.lt_irrefl,List.take_length]
theorem zbdC {r:Relation} {N:yF} (cols:yH) (hl:r.Rows.length<=1000) (hNl:N.length<=1000) (hr:∀ x∈r.Rows,zhb x) (h:zqX (r.Rows.filter zc8) []=some N) (turn:Int):∀ (n i:Nat),r.Rows.length<i+n->i<=r.Rows.length->
  zqi n turn i r ⟨cols,N⟩=(true,.inr (turn,r,⟨cols,N⟩))
 | 0,i,h1,h2=>by omega
 | n+1,i,h1,h2=>by
  show (zqD turn i r ⟨cols,N⟩).ev (zx zqz (.inl default) n) (λr=>(true,r)) (false,.inl default)=_
  unfold zqD;obtain ⟨n1,n2,n3⟩:=zFm hr h;by_cases hi:i<r.Rows.length
  ·have e13:∀ m,r.Rows.length<m->zpo m turn i [] 0 r ⟨cols,N⟩=_:=λm hm=>zbaY hl hr h turn ⟨cols,N⟩ i hi m 0 (by omega) (by omega)
   have hf:=z52 ⟨cols,N⟩ (r.Rows.getD i default).Values (by show N.length<=_; omega) (λx hx=>⟨(n1.ok x hx).1,(n1.ok x hx).2.1⟩)
   replace hf:zn6 ⟨cols,N⟩ (r.Rows.getD i default).Values=(true,zCm r.Rows (r.Rows.getD i default).Values):=by rw [hf, <- n2]
   have hv:=zZl (l1:=r.Rows) (l2:=[]) (by rw [List.append_nil]; exact hr) (by rw [List.append_nil]; exact h) (r.Rows.getD i default).Values
   have hs:zoQ (zCm r.Rows (r.Rows.getD i default).Values) (zCm r.Rows (r.Rows.getD i default).Values)=(true,true):=by rw [zGd hv.1.1.1 (by omega),decide_eq_true rfl]
   have c1:decide ((i:Int)<Int.ofNat r.Rows.length)=true:=by simp [hi]
   have c2:(decide ((0:Int)<=(i:Int))&&decide ((i:Int)<Int.ofNat r.Rows.length))=true:=by simp [hi]
   rw [Wy.ev_i,c1,cond_true,Wy.ev_bn,e13 _ (by omega),cond_true]
   simp only [Wy.ev_i,Wy.ev_k,Wy.ev_h,Wy.ev_bn,c2,cond_true,Int.toNat_natCast,hf,hs,Bool.not_true,cond_false,zy (show i<4611686018427387904 by omega)]
   exact zbdC cols hl hNl hr h turn n (i+1) (by omega) (by omega)
  ·simp only [Wy.ev_i,Wy.ev_k,Wy.ev_h,Wy.ev_bn,Wy.ev_d,tT,hi]
theorem zbaU {r:Relation} {N:yF} (cols:yH) (hl:r.Rows.length<=1000) (hNl:N.length<=1000) (hr:∀ x∈r.Rows,zhb x) (h:zqX (r.Rows.filter zc8) []=some N) (turn:Int):∀ (n i:Nat),N.length<i+n->i<=N.length->
  zpc n turn i r ⟨cols,N⟩=(true,.inr (turn,r,⟨cols,N⟩))
 | 0,i,h1,h2=>by omega
 | n+1,i,h1,h2=>by
  show (zo5 turn i r ⟨cols,N⟩).ev (zx zoW (.inl default) n) (λr=>(true,r)) (false,.inl default)=_
  unfold zo5;obtain ⟨n1,n2,n3⟩:=zFm hr h;by_cases hi:i<N.length
  ·have ih:=zbaU cols hl hNl hr h turn n (i+1) (by omega) (by omega)
   have hf:=z52 r (N.getD i default).Values (by omega) (λx hx=>⟨(hr x hx).1,(hr x hx).2.1⟩)
   have hh:zAH r (N.getD i default).Values=(true,true):=by
    rw [zbcJ r _ (by omega) λx hx=>(hr x hx).1]
    obtain ⟨x,x1,x2,x3⟩:=n3 _ (zm hi);rw [List.any_eq_true.2 ⟨x,x1,by rw [x2,x3]; simp⟩]
   simp only [Wy.ev_i,Wy.ev_k,Wy.ev_h,Wy.ev_bn,Wy.ev_d,tT,hi,hf,hh,zy (show i<4611686018427387904 by omega)]
   cases (((fnd r.Rows (N.getD i default).Values).length:Int)==(0:Int)) <;>exact ih
  ·simp only [Wy.ev_i,Wy.ev_k,Wy.ev_h,Wy.ev_bn,Wy.ev_d,tT,hi]
theorem zWV {r:Relation} (hc:zD1 r.Columns=true) (hk:zzX r.Columns r.Rows=0):zD4 r=match zqX (r.Rows.filter zc8) [] with | none=>(⟨[],[]⟩,6) | some M=>(⟨r.Columns,M⟩,0):=by
 unfold zD4 zqX;rw [hc,if_neg (by decide),if_pos hk]
 cases (r.Rows.filter zc8).foldl (λo x=>o.bind λM=>zd3 cR zc5 M x) (some []) <;>rfl
theorem zbag {cols:yH} {N:yF} (hc:zD1 cols=true) (h:NF N) (hf:∀ w∈N,zsy cols w.Values=true):zIl ⟨cols,N⟩=true:=by
 unfold zIl;rw [hc,Bool.true_and];refine zdx.2 λi _ hi=> ?_
 have hi:i<N.length:=by have:(⟨cols,N⟩:Relation).Rows.length=N.length:=rfl; omega
 have hm:=zm (l:=N) hi;show (zsy cols (N.getD i default).Values&&(zc8 (N.getD i default)&&(zS (N.getD i default).Ann&&(decide (i=0)||decide (cR (N.getD (i - 1) default) (N.getD i default)<0)))))=true;rw [hf _ hm,zZ4.2 (h.ne _ hm),(h.ok _ hm).2.2];by_cases e:i=0
 ·rw [decide_eq_true e]; rfl
 ·have:=List.pairwise_iff_getElem.1 h.asc (i - 1) i (by omega) hi (by omega)
  have g:∀ j (hj:j<N.length),N.getD j default=N[j]:=λj hj=>by rw [List.getD_eq_getElem?_getD,List.getElem?_eq_getElem hj]; rfl
  rw [g _ (by omega),g _ hi,decide_eq_true this]; simp
theorem z16 (r:Relation) (turn:Int) (hr:z78 r) (ht:wf5 turn):zhs r turn=(true,true):=by
 have ht':0<=turn/\turn<=255:=by
  have:(decide (IntKind.u8.min<=turn)&&decide (turn<=IntKind.u8.max))=true:=ht;have e1:IntKind.u8.min=0:=rfl;have e2:IntKind.u8.max=255:=rfl;rw [e1,e2] at this
  simpa using this
 obtain ⟨t,rfl⟩:∃ t:Nat,turn=(t:Int):=⟨turn.toNat,by omega⟩
 have l5:okRel r->r.Rows.length<=8->zx0 1 t r=(true,true):=λok hl=>by
  show (zqh t r).ev (zx zqJ default 0) (λr=>(true,r)) (false,default)=_
  unfold zqh;rw [Wy.ev_bn,zI6 r ok,cond_true,Wy.ev_i];by_cases hcol:zD1 r.Columns=true
  ·by_cases hk:zzX r.Columns r.Rows=0
   ·have hn:=zWV hcol hk;have hv:=zPm hk;have hrow:∀ x∈r.Rows,zhb x:=λx hx=>⟨(ok.row x hx).1,(ok.row x hx).2.1,(hv x hx).2⟩
    have hsm:∀ x∈r.Rows,zbV x.Ann:=λx hx=>(ok.row x hx).2.2 (hv x hx).2
    cases hf:zqX (r.Rows.filter zc8) [] with
    | none=>
     rw [hf] at hn;rw [hn]; rfl
    | some N=>
     rw [hf] at hn;rw [hn];obtain ⟨n1,n2,n3⟩:=zFm hrow hf
     have hNl:N.length<=8:=by
      have h1:=zXo (M:=[]) hf;have h2:(r.Rows.filter zc8).length<=r.Rows.length:=List.length_filter_le _ _;simp at h1; omega
     have hfit:∀ w∈N,zsy r.Columns w.Values=true:=λw hw=>by
      obtain ⟨x,x1,x2,_⟩:=n3 w hw;rw [<- x2]; exact (hv x x1).1
     have oN:okRel ⟨r.Columns,N⟩:=by
      refine ⟨ok.cols,by show N.length<20; omega,λw hw=>⟨(n1.ok w hw).1,(n1.ok w hw).2.1,λ_=> ?_⟩⟩
      rw [<- zZ9 n1.asc hw,n2]
      have go:∀ (l:yF) (s:yB),(∀ x∈l,zhb x/\zbV x.Ann)->PA s->zbV s->zbV (l.foldl (λs x=>zcp s x.Ann) s):=by
       intro l;induction l with
       | nil=>intro s _ _ h; exact h
       | cons x l ih=>intro s hl hs h; exact ih _ (λy hy=>hl y (by simp [hy])) (zm0 hs (zDE (hl x (by simp)).1.2.2)) (z8D hs.1 h (hl x (by simp)).2)
      exact go _ [] (λx hx=>⟨hrow x (List.mem_filter.1 hx).1,hsm x (List.mem_filter.1 hx).1⟩) PA.nil zxP
     have vN:zIl ⟨r.Columns,N⟩=true:=zbag hcol n1 hfit
     have nN:zD4 ⟨r.Columns,N⟩=(⟨r.Columns,N⟩,0):=by
      rw [zWV (r:=⟨r.Columns,N⟩) hcol (z4n λw hw=>⟨hfit w hw,(n1.ok w hw).2.2⟩)]
      have e1:(N.filter zc8)=N:=List.filter_eq_self.2 λw hw=>zZ4.2 (n1.ne w hw)
      have e2:zqX N []=some N:=z1f (l:=N) (M:=[]) (by simpa using n1.asc)
      show (match zqX (N.filter zc8) [] with | none=>_ | some M=>_)=_
      rw [e1,e2]
     have kN:(⟨r.Columns,N⟩:Relation).Columns.length<=1000000/\(⟨r.Columns,N⟩:Relation).Rows.length<=1000000/\∀ y∈(⟨r.Columns,N⟩:Relation).Rows,y.Values.length<=1000000/\okA y.Ann:=⟨ok.cols,by show N.length<=_; omega,λw hw=>⟨(n1.ok w hw).1,(n1.ok w hw).2.1⟩⟩
     have eN:zlZ ⟨r.Columns,N⟩ ⟨r.Columns,N⟩=(true,true):=by rw [z5N ⟨r.Columns,N⟩ ⟨r.Columns,N⟩ kN.1 kN.2.1 kN.2.2,decide_eq_true rfl]
     have p:=z5E r.Rows t;have oS:okRel ⟨r.Columns,zBL r.Rows t⟩:=⟨ok.cols,by show (zBL r.Rows t).length<20; rw [p.length_eq]; omega,λx hx=>ok.row x (p.mem_iff.1 hx)⟩
     have nS:∃ z g,zD4 ⟨r.Columns,zBL r.Rows t⟩=(z,g)/\(g=0->z=⟨r.Columns,N⟩):=by
      rw [zWV (r:=⟨r.Columns,zBL r.Rows t⟩) hcol (z4n λx hx=>hv x (p.mem_iff.1 hx))]
      show ∃ z g,(match zqX ((zBL r.Rows t).filter zc8) [] with | none=>_ | some M=>_)=(z,g)/\_
      cases hf2:zqX ((zBL r.Rows t).filter zc8) [] with
      | none=>exact ⟨_,_,rfl,λh=>by cases h⟩
      | some K=>
       refine ⟨_,_,rfl,λ_=> ?_⟩
       obtain ⟨k1,k2,k3⟩:=zFm (λx hx=>hrow x (p.mem_iff.1 hx)) hf2
       rw [zbbW k1.asc n1.asc k1.ne n1.ne λv=>by
        rw [k2,n2];exact z80 p PA.nil λx hx=>zDE (hrow x (p.mem_iff.1 hx)).2.2]
     obtain ⟨z,g,z1,z2⟩:=nS
     have l8:zx2 1 t r ⟨r.Columns,N⟩=(true,true):=by
      show (zqx t r ⟨r.Columns,N⟩).ev (zx zqe default 0) (λr=>(true,r)) (false,default)=_
      unfold zqx;have e9:∀ m,r.Rows.length<m->zqi m t 0 r ⟨r.Columns,N⟩=_:=λm hm=>zbdC r.Columns (by omega) (by omega) hrow hf (t:Int) m 0 (by omega) (by omega)
      have e20:∀ m,N.length<m->zpc m t 0 r ⟨r.Columns,N⟩=_:=λm hm=>zbaU r.Columns (by omega) (by omega) hrow hf (t:Int) m 0 (by omega) (by omega)
      have e27:∀ m,r.Rows.length<m->zo6 m t 0 0 r ⟨r.Columns,N⟩ ⟨r.Columns,N⟩ r.Columns []=_:=λm hm=>zbaP t (by omega) 0 r ⟨r.Columns,N⟩ ⟨r.Columns,N⟩ r.Columns (by omega) m 0 (by omega) (by omega)
      have hNl':(⟨r.Columns,N⟩:Relation).Rows.length=N.length:=rfl;rw [Wy.ev_bn,e9 _ (by omega),cond_true]
      simp only [Wy.ev_i,Wy.ev_k,isL,getL,getR,cond_false];rw [Wy.ev_bn,e20 _ (by omega),cond_true]
      simp only [Wy.ev_i,Wy.ev_k,isL,getL,getR,cond_false];rw [Wy.ev_bn,zI6 _ oN,nN,cond_true,Wy.ev_bn,e27 _ (by omega),cond_true]
      simp only [Wy.ev_bn,zI6 _ oS,z1,z9j _ oN,vN,cond_true,Wy.ev_i,Wy.ev_k,beq_self_eq_true,eN];by_cases hg:g=0
      ·have:(g != (0:Int))=false:=by rw [zry,decide_eq_true hg]; rfl
       rw [this,cond_false,z2 hg,eN]; rfl
      ·have:(g != (0:Int))=true:=by rw [zry,decide_eq_false hg]; rfl
       rw [this]; rfl
     simp only [Wy.ev_bn,Wy.ev_k,l8,cond_true];rfl
   ·have hn:zD4 r=(⟨[],[]⟩,zzX r.Columns r.Rows):=by
     unfold zD4;rw [hcol,if_neg (by decide),if_neg hk]
    rw [hn];have:(zzX r.Columns r.Rows != (0:Int))=true:=by rw [zry,decide_eq_false hk]; rfl
    simp only [this,cond_true]; rfl
  ·have hn:zD4 r=(⟨[],[]⟩,1):=by
    unfold zD4;rw [if_pos (by cases h:zD1 r.Columns; rfl; exact absurd h hcol)]
   rw [hn]; rfl
 have l3:zx5 1 t r=(true,true):=by
  show (zqk t r).ev (zx zqA default 0) (λr=>(true,r)) (false,default)=_
  unfold zqk;obtain ⟨q,q1,q2⟩:=zbeH 8 30 [r] (by omega) (by omega) (by simp) (λx hx=>by rw [qh.1 hx]; exact hr)
  replace q1:zAX (8:Int) (30:Int) [r]=(true,q):=q1;rw [Wy.ev_bn,q1,cond_true];cases q with
  | false=>rfl
  | true=>
   have kr:=q2 rfl r (by simp)
   rw [Wy.ev_i,Bool.not_true,cond_false,Wy.ev_bn,l5 (kr.ok (by omega) (by omega)) kr.rows]; rfl
 unfold zhs zy0;rw [Wy.fin_bn,l3]; rfl
end Go.Proofs.YtoknknbmfmddbaaGreatDoor
end
