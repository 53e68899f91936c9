/- Texts of this claim, joined (the program, its functions in plain words, and what they compute). -/
import Derived.Test.YtoknknbmfmddbaaGreatDoorGC11
set_option autoImplicit false
set_option linter.unusedVariables false
set_option linter.unusedSectionVars false
set_option linter.unusedSimpArgs false
set_option maxRecDepth 1000000
set_option maxHeartbeats 0
/- Relations compared; tables of named rows. -/
set_option maxRecDepth 100000
noncomputable section
namespace Go.Proofs.YtoknknbmfmddbaaGreatDoor
open Go Go.Ab
theorem zST {τ:Type} [Inhabited τ] [DecidableEq τ] {a b:List τ} (h:a.length=b.length):zd5 (λi=>decide (a.getD i default=b.getD i default)) a.length 0=decide (a=b):=by
 by_cases e:a=b
 ·subst e;rw [qg rfl];exact zdU.2 λk _ _=>by simp
 ·rw [qd e];cases hc:zd5 (λi=>decide (a.getD i default=b.getD i default)) a.length 0 with
  | false=>rfl
  | true=>
   refine absurd (List.ext_getElem h λi h1 h2=> ?_) e
   have:=zdU.1 hc i (by omega) (by omega)
   rw [qb,qi,qi,ql h1,ql h2] at this;exact this
theorem zbjQ (x y:Column):(x.Name.toList==y.Name.toList&&x.Type_==y.Type_)=decide (x=y):=by
 rw [zDV,zfi];cases x; cases y;simp only [Column.mk.injEq];exact (Bool.decide_and _ _).symm
theorem z83 (a b:yH) (ha:a.length<=1000000):zpF a b=(true,decide (a=b)):=by
 unfold zpF zGN;rw [Wy.fin_i,zj1,zAn];by_cases he:a.length=b.length
 ·have key:=zcs (W:=zwK) (z:=.inl default) a.length (λi=>(a,b,(i:Int),())) (λ_=>()) (λi=>decide (a.getD i default=b.getD i default)) (.inl false) (.inr ()) (λi hi H K D=>by
    show (zlj a b i).ev H K D=_;unfold zlj Wy.ix;have hi':i<b.length:=by omega
    simp only [Wy.ev_i,Wy.ev_k,Wy.ev_h,Wy.ev_bn,Wy.ev_d,tT,hi,hi',zbjQ,zu (show i<4611686018427387904 by omega)]
    cases decide (a.getD i default=b.getD i default) <;>rfl) (λH K D=>by
    show (zlj a b a.length).ev H K D=_;unfold zlj Wy.ix;simp only [Wy.ev_i,Wy.ev_k,Wy.ev_h,Wy.ev_bn,Wy.ev_d,tT,qr]) (a.length+b.length+Int.toNat (0:Int)+(1:Nat)) (by omega)
  replace key:zFT (a.length+b.length+Int.toNat (0:Int)+(1:Nat)) a b 0=_:=key;rw [qg he,qk,q9,Wy.fin_bn,key,zST he];cases decide (a=b) <;>rfl
 ·rw [qd he,qd (show ¬ a=b from λe=>he (by rw [e]))]; rfl
theorem zbjP (x y:Row):(decide (x.Values=y.Values)&&decide (x.Ann=y.Ann))=decide (x=y):=by
 cases x; cases y;simp only [Row.mk.injEq];exact (Bool.decide_and _ _).symm
theorem zbez (a b:yF) (ha:a.length<=1000000) (h:∀ x∈a,x.Values.length<=1000000/\okA x.Ann):zvo a b=(true,decide (a=b)):=by
 unfold zvo zME;rw [Wy.fin_i,zj1,zAn];by_cases he:a.length=b.length
 ·have key:=zcs (W:=zBE) (z:=.inl default) a.length (λi=>(a,b,(i:Int),())) (λ_=>()) (λi=>decide (a.getD i default=b.getD i default)) (.inl false) (.inr ()) (λi hi H K D=>by
    show (zpH a b i).ev H K D=_;unfold zpH Wy.ix;have hi':i<b.length:=by omega
    obtain ⟨k1,k2⟩:=h _ (zm hi);have ks:zp1 (a.getD i default).Ann (b.getD i default).Ann=(true,decide ((a.getD i default).Ann=(b.getD i default).Ann)):=zCw k2.1.1 (by omega) _
    simp only [Wy.ev_i,Wy.ev_k,Wy.ev_h,Wy.ev_bn,Wy.ev_d,tT,hi,hi',zbas _ (b.getD i default).Values k1,ks,zu (show i<4611686018427387904 by omega)]
    rw [<- zbjP];cases decide ((a.getD i default).Values=(b.getD i default).Values) <;>cases decide ((a.getD i default).Ann=(b.getD i default).Ann) <;>rfl) (λH K D=>by
    show (zpH a b a.length).ev H K D=_;unfold zpH Wy.ix;simp only [Wy.ev_i,Wy.ev_k,Wy.ev_h,Wy.ev_bn,Wy.ev_d,tT,qr]) (a.length+b.length+Int.toNat (0:Int)+(1:Nat)) (by omega)
  replace key:zKL (a.length+b.length+Int.toNat (0:Int)+(1:Nat)) a b 0=_:=key;rw [qg he,qk,q9,Wy.fin_bn,key,zST he];cases decide (a=b) <;>rfl
 ·rw [qd he,qd (show ¬ a=b from λe=>he (by rw [e]))]; rfl
theorem zbhk (a b:Relation) (hc:a.Columns.length<=1000000) (ha:a.Rows.length<=1000000) (h:∀ x∈a.Rows,x.Values.length<=1000000/\okA x.Ann):zE9 a b=(true,decide (a=b)):=by
 unfold zE9 z0k;rw [Wy.fin_bn,z83 _ _ hc,q7,Wy.fin_i,Wy.fin_bn,zbez _ _ ha h]
 have e:decide (a=b)=(decide (a.Columns=b.Columns)&&decide (a.Rows=b.Rows)):=by
  cases a; cases b;simp only [Relation.mk.injEq];exact Bool.decide_and _ _
 rw [e];cases decide (a.Columns=b.Columns) <;>rfl
end Go.Proofs.YtoknknbmfmddbaaGreatDoor
/- Relations: equality by the program; the empty relation. -/
set_option maxRecDepth 100000
namespace Go.Proofs.YtoknknbmfmddbaaGreatDoor
open Go Go.Ab
theorem zbhV (a b:yH) (ha:a.length<=1000000):zd8 a b=(true,decide (a=b)):=by
 unfold zd8 zm4;rw [Wy.fin_i,zj1,zAn];by_cases he:a.length=b.length
 ·have key:=zcs (W:=zhv) (z:=.inl default) a.length (λi=>(a,b,(a.length:Int),(i:Int),())) (λ_=>()) (λi=>decide (a.getD i default=b.getD i default)) (.inl false) (.inr ()) (λi hi H K D=>by
    show (zdz a b a.length i).ev H K D=_;unfold zdz Wy.ix;have hi':i<b.length:=by omega
    simp only [Wy.ev_i,Wy.ev_k,Wy.ev_h,Wy.ev_bn,Wy.ev_d,tT,hi,hi',zbjQ,zu (show i<4611686018427387904 by omega)]
    cases decide (a.getD i default=b.getD i default) <;>rfl) (λH K D=>by
    show (zdz a b a.length a.length).ev H K D=_;unfold zdz Wy.ix;simp only [Wy.ev_i,Wy.ev_k,Wy.ev_h,Wy.ev_bn,Wy.ev_d,tT,qr]) (a.length+b.length+(Int.ofNat a.length).toNat +Int.toNat (0:Int)+(1000:Nat)) (by omega)
  replace key:zmr (a.length+b.length+(Int.ofNat a.length).toNat +Int.toNat (0:Int)+(1000:Nat)) a b (Int.ofNat a.length) 0=_:=key;rw [qg he,qk,q9,Wy.fin_bn,key,zST he];cases decide (a=b) <;>rfl
 ·rw [qd he,qd (show ¬ a=b from λe=>he (by rw [e]))]; rfl
theorem zbf9 (x y:Row) (h1:x.Values.length<=1000000) (h2:okA x.Ann):zrl x y=(true,decide (x=y)):=by
 unfold zrl zIn;have ea:zgx x.Ann y.Ann=(true,decide (x.Ann=y.Ann)):=zyH h2.1.1 (by omega) _
 have ec:(ztj x.Values y.Values==(0:Int))=decide (x.Values=y.Values):=by rw [zfi,decide_eq_decide]; exact zLQ _ _
 rw [Wy.fin_bn,zeN x y h1,q7,Wy.fin_i,ec,Wy.fin_bn,ea, <- zbjP];cases decide (x.Values=y.Values) <;>rfl
theorem zbh9 (a b:yF) (ha:a.length<=1000000) (h:∀ x∈a,x.Values.length<=1000000/\okA x.Ann):zcc a b=(true,decide (a=b)):=by
 unfold zcc zgT;rw [Wy.fin_i,zj1,zAn];by_cases he:a.length=b.length
 ·have key:=zcs (W:=zd3) (z:=.inl default) a.length (λi=>(b,(),a,(a.length:Int),(i:Int),())) (λ_=>()) (λi=>decide (a.getD i default=b.getD i default)) (.inl false) (.inr ()) (λi hi H K D=>by
    show (zb6 b a a.length i).ev H K D=_;unfold zb6 Wy.ix;have hi':i<b.length:=by omega
    obtain ⟨k1,k2⟩:=h _ (zm hi);simp only [Wy.ev_i,Wy.ev_k,Wy.ev_h,Wy.ev_bn,Wy.ev_d,tT,hi,hi',zbf9 _ _ k1 k2,zu (show i<4611686018427387904 by omega)]
    cases decide (a.getD i default=b.getD i default) <;>rfl) (λH K D=>by
    show (zb6 b a a.length a.length).ev H K D=_;unfold zb6 Wy.ix;simp only [Wy.ev_i,Wy.ev_k,Wy.ev_h,Wy.ev_bn,Wy.ev_d,tT,qr]) (b.length+a.length+(Int.ofNat a.length).toNat +Int.toNat (0:Int)+(1000:Nat)) (by omega)
  replace key:zgH (b.length+a.length+(Int.ofNat a.length).toNat +Int.toNat (0:Int)+(1000:Nat)) b a (Int.ofNat a.length) 0=_:=key;rw [qg he,qk,q9,Wy.fin_bn,key,zST he];cases decide (a=b) <;>rfl
 ·rw [qd he,qd (show ¬ a=b from λe=>he (by rw [e]))]; rfl
theorem zbeN (a b:Relation) (hc:a.Columns.length<=1000000) (ha:a.Rows.length<=1000000) (h:∀ x∈a.Rows,x.Values.length<=1000000/\okA x.Ann):zqZ a b=(true,decide (a=b)):=by
 unfold zqZ zMQ;rw [Wy.fin_bn,zbhV _ _ hc,q7,Wy.fin_i,Wy.fin_bn,zbh9 _ _ ha h]
 have e:decide (a=b)=(decide (a.Columns=b.Columns)&&decide (a.Rows=b.Rows)):=by
  cases a; cases b;simp only [Relation.mk.injEq];exact Bool.decide_and _ _
 rw [e];cases decide (a.Columns=b.Columns) <;>rfl
theorem zbji (cols:yH) (hc:cols.length<=1000000):zvL cols=(true,cols):=by
 unfold zvL zNw zcp;rw [qg (zC0 (by omega) (by omega))]; rfl
end Go.Proofs.YtoknknbmfmddbaaGreatDoor
/- Relations in normal form, by what is found in them. No program in sight. -/
set_option maxRecDepth 100000
namespace Go.Proofs.YtoknknbmfmddbaaGreatDoor
open Go Go.Ab
def fnd:yF->yG->yB
 | [],_=>[]
 | w::r,v=>if w.Values=v then w.Ann else fnd r v
abbrev ztk (M:yF):Prop:=M.Pairwise λx y=>cR x y<0
theorem zTl {x y:Row} (h:cR x y<0):x.Values≠y.Values:=λe=>by
 have:=(zLQ x.Values y.Values).2 e;unfold cR at h; omega
theorem zbe3 {x y:Row}:cR x y=0↔x.Values=y.Values:=zLQ _ _
theorem z3J {x y z:Row} (h1:cR x y<0) (h2:cR y z<0):cR x z<0:=by
 have a:=zQM (x:=x.Values) (y:=y.Values) (z:=z.Values) (by unfold cR at h1; omega) (by unfold cR at h2; omega)
 by_cases e:cR x z=0
 ·have:=zbe3.1 e;unfold cR at h1 h2;rw [this] at h1;have:=zpX y.Values z.Values;omega
 ·unfold cR at *; omega
theorem z4i:∀ {M:yF} {v:yG},(∀ w∈M,w.Values≠v)->fnd M v=[]
 | [],_,_=>rfl
 | y::M,v,h=>by rw [fnd,if_neg (h y (by simp)),z4i λw hw=>h w (by simp [hw])]
theorem zL4:∀ {M:yF} {w:Row},ztk M->w∈M->fnd M w.Values=w.Ann
 | [],_,_,h=>by cases h
 | y::M,w,s,h=>by
  have s':=qh.1 s;rw [fnd];rcases q8.1 h with rfl | h
  ·rw [if_pos rfl]
  ·rw [if_neg (zTl (s'.1 w h)),zL4 s'.2 h]
theorem z3O:∀ {M:yF} {v:yG},fnd M v≠[]->∃ w∈M,w.Values=v/\w.Ann=fnd M v
 | [],_,h=>absurd rfl h
 | y::M,v,h=>by
  rw [fnd] at h ⊢;split at h
  ·rename_i e; exact ⟨y,by simp,e,by rw [if_pos e]⟩
  ·rename_i e;obtain ⟨w,h1,h2,h3⟩:=z3O h;exact ⟨w,by simp [h1],h2,by rw [if_neg e]; exact h3⟩
theorem zQ9 {y x z:Row} (h:zep y x=some z):z=⟨y.Values,zcT y.Ann x.Ann⟩/\zx (zcT y.Ann x.Ann)=true:=by
 unfold zep at h;split at h
 ·rename_i h0;rw [q0] at h;obtain ⟨⟨_,_,v3⟩,e⟩:=zbbR h0;rw [e] at h;exact ⟨h.symm,v3⟩
 ·cases h
theorem zbdy:∀ {M N:yF} {x:Row},ztk M->zr7 x->zeY cR zep M x=some N->∀ v,fnd N v=if x.Values=v then zcT (fnd M v) x.Ann else fnd M v
 | [],N,x,_,hx,h,v=>by
  rw [zeY,q0] at h;subst h;show (if x.Values=v then x.Ann else [])=if x.Values=v then zcT [] x.Ann else []
  rw [sum_nil (zHb hx.2.2).1]
 | y::M,N,x,s,hx,h,v=>by
  have s':=qh.1 s;rw [zeY] at h;by_cases h1:cR y x<0
  ·rw [if_pos h1] at h;cases e:zeY cR zep M x with
   | none=>rw [e] at h; cases h
   | some K=>
    rw [e,qz,q0] at h;subst h;have ih:=zbdy s'.2 hx e v;rw [fnd,fnd];by_cases e1:y.Values=v
    ·rw [if_pos e1,if_pos e1,if_neg];intro e2; exact zTl h1 (e1.trans e2.symm)
    ·rw [if_neg e1,if_neg e1,ih]
  ·rw [if_neg h1] at h;by_cases h2:cR y x=0
   ·rw [if_pos h2] at h;have exy:=zbe3.1 h2;cases e:zep y x with
    | none=>rw [e] at h; cases h
    | some z=>
     rw [e,qz,q0] at h;obtain ⟨ez,_⟩:=zQ9 e;subst h;rw [ez,fnd,fnd,exy];by_cases e1:x.Values=v
     ·rw [if_pos e1,if_pos e1,if_pos e1]
     ·rw [if_neg e1,if_neg e1,if_neg e1]
   ·rw [if_neg h2,q0] at h;subst h;have h3:cR x y<0:=by unfold cR at *; have:=zpX x.Values y.Values; omega
    rw [fnd];by_cases e1:x.Values=v
    ·rw [if_pos e1,if_pos e1,z4i,sum_nil (zHb hx.2.2).1];intro w hw;rw [<- e1];rcases q8.1 hw with rfl | hw
     ·exact (zTl h3).symm
     ·exact (zTl (z3J h3 (s'.1 w hw))).symm
    ·rw [if_neg e1,if_neg e1]
theorem z23:∀ {M N:yF} {x:Row},zeY cR zep M x=some N->∀ w∈N,w.Values=x.Values\/∃ u∈M,u.Values=w.Values
 | [],N,x,h,w,hw=>by
  rw [zeY,q0] at h;subst h;rw [qj.1 hw]; exact .inl rfl
 | y::M,N,x,h,w,hw=>by
  rw [zeY] at h;split at h
  ·cases e:zeY cR zep M x with
   | none=>rw [e] at h; cases h
   | some K=>
    rw [e,qz,q0] at h;subst h;rcases q8.1 hw with rfl | hw
    ·exact .inr ⟨w,by simp,rfl⟩
    ·rcases z23 e w hw with k | ⟨u,k1,k2⟩
     ·exact .inl k
     ·exact .inr ⟨u,by simp [k1],k2⟩
  ·split at h
   ·cases e:zep y x with
    | none=>rw [e] at h; cases h
    | some z=>
     rw [e,qz,q0] at h;subst h;rcases q8.1 hw with rfl | hw
     ·exact .inr ⟨y,by simp,by rw [(zQ9 e).1]⟩
     ·exact .inr ⟨w,by simp [hw],rfl⟩
   ·rw [q0] at h;subst h;rcases q8.1 hw with rfl | hw
    ·exact .inl rfl
    ·exact .inr ⟨w,hw,rfl⟩
theorem zbd4:∀ {M N:yF} {x:Row},ztk M->zeY cR zep M x=some N->ztk N
 | [],N,x,_,h=>by
  rw [zeY,q0] at h;subst h; simp
 | y::M,N,x,s,h=>by
  have s':=qh.1 s;rw [zeY] at h;by_cases h1:cR y x<0
  ·rw [if_pos h1] at h;cases e:zeY cR zep M x with
   | none=>rw [e] at h; cases h
   | some K=>
    rw [e,qz,q0] at h;subst h;refine qh.2 ⟨λw hw=> ?_,zbd4 s'.2 e⟩
    rcases z23 e w hw with k | ⟨u,k1,k2⟩
    ·unfold cR at h1 ⊢; rw [k]; exact h1
    ·have:=s'.1 u k1;unfold cR at this ⊢; rw [<- k2]; exact this
  ·rw [if_neg h1] at h;by_cases h2:cR y x=0
   ·rw [if_pos h2] at h;cases e:zep y x with
    | none=>rw [e] at h; cases h
    | some z=>
     rw [e,qz,q0] at h;subst h;refine qh.2 ⟨λw hw=> ?_,s'.2⟩
     have:=s'.1 w hw;unfold cR at this ⊢; rw [(zQ9 e).1]; exact this
   ·rw [if_neg h2,q0] at h;subst h;have h3:cR x y<0:=by unfold cR at *; have:=zpX x.Values y.Values; omega
    refine qh.2 ⟨λw hw=> ?_,s⟩
    rcases q8.1 hw with rfl | hw
    ·exact h3
    ·exact z3J h3 (s'.1 w hw)
theorem zbfI:∀ {M N:yF} {x:Row},(∀ w∈M,zr7 w)->zr7 x->zeY cR zep M x=some N->∀ w∈N,zr7 w
 | [],N,x,_,hx,h,w,hw=>by
  rw [zeY,q0] at h;subst h;rw [qj.1 hw]; exact hx
 | y::M,N,x,k,hx,h,w,hw=>by
  have k':∀ w∈M,zr7 w:=λw hw=>k w (by simp [hw])
  rw [zeY] at h;split at h
  ·cases e:zeY cR zep M x with
   | none=>rw [e] at h; cases h
   | some K=>
    rw [e,qz,q0] at h;subst h;rcases q8.1 hw with rfl | hw
    ·exact k w (by simp)
    ·exact zbfI k' hx e w hw
  ·split at h
   ·cases e:zep y x with
    | none=>rw [e] at h; cases h
    | some z=>
     rw [e,qz,q0] at h;subst h;rcases q8.1 hw with rfl | hw
     ·exact (zbjb.key y x _ (k y (by simp)) hx e).1
     ·exact k' w hw
   ·rw [q0] at h;subst h;rcases q8.1 hw with rfl | hw
    ·exact hx
    ·exact k w hw
theorem zbbI:∀ {l M N:yF},ztk M->(∀ w∈M,zr7 w)->(∀ x∈l,zr7 x)->l.foldl (λo x=>o.bind λM=>zeY cR zep M x) (some M)=some N->
  ztk N/\(∀ w∈N,zr7 w)/\(∀ v,fnd N v=(l.filter λx=>decide (x.Values=v)).foldl (λs x=>zcT s x.Ann) (fnd M v))/\∀ w∈N,(∃ x∈l,x.Values=w.Values)\/∃ u∈M,u.Values=w.Values
 | [],M,N,s,k,u,h=>by
  rw [List.foldl_nil,q0] at h;subst h;exact ⟨s,k,λv=>rfl,λw hw=>.inr ⟨w,hw,rfl⟩⟩
 | x::l,M,N,s,k,u,h=>by
  have hx:=u x (by simp)
  rw [q11,q1g] at h;cases e:zeY cR zep M x with
  | none=>rw [e,zYf] at h; cases h
  | some K=>
   rw [e] at h;obtain ⟨h1,h2,h3,h4⟩:=zbbI (zbd4 s e) (zbfI k hx e) (λy hy=>u y (by simp [hy])) h
   refine ⟨h1,h2,λv=> ?_,λw hw=> ?_⟩
   ·rw [h3,zbdy s hx e v,q2u];by_cases e1:x.Values=v
    ·rw [if_pos e1,qg e1,if_pos rfl,q11]
    ·rw [if_neg e1,qd e1,if_neg (by simp)]
   ·rcases h4 w hw with ⟨y,y1,y2⟩ | ⟨y,y1,y2⟩
    ·exact .inl ⟨y,by simp [y1],y2⟩
    ·rcases z23 e y y1 with q | ⟨z,z1,z2⟩
     ·exact .inl ⟨x,by simp,by rw [<- y2,q]⟩
     ·exact .inr ⟨z,z1,by rw [z2,y2]⟩
theorem zbkm:∀ {M N:yF},ztk M->ztk N->(∀ w∈M,w.Ann≠[])->(∀ w∈N,w.Ann≠[])->(∀ v,fnd M v=fnd N v)->M=N:=by
 have sub:∀ {M N:yF},ztk M->(∀ w∈M,w.Ann≠[])->(∀ v,fnd M v=fnd N v)->∀ w∈M,w∈N:=λ{M N} s k h w hw=>by
  have e:=zL4 s hw;rw [h] at e;obtain ⟨u,u1,u2,u3⟩:=z3O (M:=N) (v:=w.Values) (by rw [e]; exact k w hw)
  have:u=w:=by
   cases u; cases w;simp only at u2 u3 e;rw [u2,u3,e]
  rw [<- this]; exact u1
 intro M N sM sN kM kN h;have nd:∀ {M:yF},ztk M->M.Nodup:=λs=>List.Pairwise.imp (λ{x y} (hxy:cR x y<0) (e:x=y)=>zTl hxy (by rw [e])) s
 have p:M.Perm N:=(List.perm_ext_iff_of_nodup (nd sM) (nd sN)).2 λw=>⟨sub sM kM h w,sub sN kN (λv=>(h v).symm) w⟩
 exact p.eq_of_pairwise (le:=λx y=>cR x y<0) (λa b _ _ h1 h2=>by
  unfold cR at h1 h2;have:=zpX a.Values b.Values;omega) sM sN
end Go.Proofs.YtoknknbmfmddbaaGreatDoor
namespace Go.Proofs.YtoknknbmfmddbaaGreatDoor
open Go Go.Ab
end Go.Proofs.YtoknknbmfmddbaaGreatDoor
/- Relations: what is valid, and the sum, by the program and the reference. -/
set_option maxRecDepth 100000
namespace Go.Proofs.YtoknknbmfmddbaaGreatDoor
open Go Go.Ab
def vR (r:Relation) (i:Nat):Bool:=zjQ r.Columns (r.Rows.getD i default).Values&&(zgO (r.Rows.getD i default)&&(zx (r.Rows.getD i default).Ann&&(decide (i=0)||decide (cR (r.Rows.getD (i - 1) default) (r.Rows.getD i default)<0))))
def zdT (r:Relation):Bool:=zAt r.Columns&&zd5 (vR r) r.Rows.length 0
theorem z0D (x:Row):((x.Ann.length:Int)==(0:Int))= !zgO x:=by
 unfold zgO; rw [Bool.not_not]; exact ztE _ 0
theorem zbjY (z:Int):decide (z≥0)= !decide (z<0):=by
 by_cases h:z<0
 ·rw [qg h,qd (by omega)]; rfl
 ·rw [qd h,qg (by omega)]; rfl
theorem zZA (r:Relation) (h:okRel r):zkD r=(true,zdT r):=by
 unfold zkD zM1 zdT;have hl:=h.rows
 have e1024:decide (Int.ofNat r.Rows.length>(1024:Int))=false:=by
  rw [show decide (Int.ofNat r.Rows.length>(1024:Int))=decide (r.Rows.length>1024) from zjR _ 1024]
  exact qd (by omega)
 have key:=zcs (W:=zBk) (z:=.inl default) r.Rows.length (λi=>((),r.Rows,(r.Rows.length:Int),(i:Int),())) (λ_=>(r,())) (vR r) (.inl false) (.inr ()) (λi hi H K D=>by
   show (zpG r.Rows r.Rows.length i r).ev H K D=_;unfold zpG Wy.ix;obtain ⟨k1,k2,k3⟩:=h.row _ (zm hi);unfold vR;cases i with
   | zero=>
    simp only [Wy.ev_i,Wy.ev_k,Wy.ev_h,Wy.ev_bn,Wy.ev_d,tT,hi,z8g _ _ h.cols,k2.valid,z0D,zu (show 0<4611686018427387904 by omega)]
    cases zjQ r.Columns (r.Rows.getD 0 default).Values <;>cases zgO (r.Rows.getD 0 default) <;>cases zx (r.Rows.getD 0 default).Ann <;>rfl
   | succ j=>
    have hj:j<r.Rows.length:=by omega
    have e0:decide (((j+1:Nat):Int)>(0:Int))=true:=qg (by omega)
    have ew:IntKind.i64.wrap (((j+1:Nat):Int) - (1:Int))=(j:Int):=by rw [ze5 (by omega) (by omega)]; omega
    have hc:=zeN (r.Rows.getD j default) (r.Rows.getD (j+1) default) (h.row _ (zm hj)).1;simp only [Wy.ev_i,Wy.ev_k,Wy.ev_h,Wy.ev_bn,Wy.ev_d,tT,hi,hj,z8g _ _ h.cols,k2.valid,z0D,e0,ew,hc,zbjY,zu (show j+1<4611686018427387904 by omega),Nat.add_sub_cancel,Nat.succ_ne_zero,Bool.false_or]
    show _=bif zjQ r.Columns (r.Rows.getD (j+1) default).Values&&(zgO (r.Rows.getD (j+1) default)&&(zx (r.Rows.getD (j+1) default).Ann&&decide (ztj (r.Rows.getD j default).Values (r.Rows.getD (j+1) default).Values<0))) then _ else _
    cases zjQ r.Columns (r.Rows.getD (j+1) default).Values <;>cases zgO (r.Rows.getD (j+1) default) <;>cases zx (r.Rows.getD (j+1) default).Ann <;>cases decide (ztj (r.Rows.getD j default).Values (r.Rows.getD (j+1) default).Values<0) <;>rfl) (λH K D=>by
   show (zpG r.Rows r.Rows.length r.Rows.length r).ev H K D=_;unfold zpG Wy.ix;simp only [Wy.ev_i,Wy.ev_k,Wy.ev_h,Wy.ev_bn,Wy.ev_d,tT,qr]) (r.Rows.length+(Int.ofNat r.Rows.length).toNat +Int.toNat (0:Int)+r.Columns.length+r.Rows.length+(1000:Nat)) (by omega)
 replace key:zKX (r.Rows.length+(Int.ofNat r.Rows.length).toNat +Int.toNat (0:Int)+r.Columns.length+r.Rows.length+(1000:Nat)) r.Rows (Int.ofNat r.Rows.length) 0 r=_:=key;rw [Wy.fin_bn,zPc _ h.cols,q7,Wy.fin_i];cases zAt r.Columns with
 | false=>rfl
 | true=>
  rw [qk,q9,Wy.fin_i,e1024,q9,Wy.fin_bn,key];cases zd5 (vR r) r.Rows.length 0 <;>rfl
theorem zbgz (r:Relation) (h:okRel r):zBR r=(true,zdT r):=by
 unfold zBR zVJ zdT;have hl:=h.rows
 have e1024:decide (Int.ofNat r.Rows.length>(1024:Int))=false:=by
  rw [show decide (Int.ofNat r.Rows.length>(1024:Int))=decide (r.Rows.length>1024) from zjR _ 1024]
  exact qd (by omega)
 have key:=zcs (W:=zHM) (z:=.inl default) r.Rows.length (λi=>((),(i:Int),())) (λ_=>(r,())) (vR r) (.inl false) (.inr ()) (λi hi H K D=>by
   show (zvl i r).ev H K D=_;unfold zvl Wy.ix;obtain ⟨k1,k2,k3⟩:=h.row _ (zm hi);unfold vR;cases i with
   | zero=>
    simp only [Wy.ev_i,Wy.ev_k,Wy.ev_h,Wy.ev_bn,Wy.ev_d,tT,hi,zVC _ _ h.cols,k2.rvalid,z0D,zu (show 0<4611686018427387904 by omega)]
    cases zjQ r.Columns (r.Rows.getD 0 default).Values <;>cases zgO (r.Rows.getD 0 default) <;>cases zx (r.Rows.getD 0 default).Ann <;>rfl
   | succ j=>
    have hj:j<r.Rows.length:=by omega
    have e0:decide (((j+1:Nat):Int)>(0:Int))=true:=qg (by omega)
    have ew:IntKind.i64.wrap (((j+1:Nat):Int) - (1:Int))=(j:Int):=by rw [ze5 (by omega) (by omega)]; omega
    have hc:=zEL (r.Rows.getD j default).Values (r.Rows.getD (j+1) default).Values (h.row _ (zm hj)).1;simp only [Wy.ev_i,Wy.ev_k,Wy.ev_h,Wy.ev_bn,Wy.ev_d,tT,hi,hj,zVC _ _ h.cols,k2.rvalid,z0D,e0,ew,hc,zbjY,zu (show j+1<4611686018427387904 by omega),Nat.add_sub_cancel,Nat.succ_ne_zero,Bool.false_or]
    show _=bif zjQ r.Columns (r.Rows.getD (j+1) default).Values&&(zgO (r.Rows.getD (j+1) default)&&(zx (r.Rows.getD (j+1) default).Ann&&decide (ztj (r.Rows.getD j default).Values (r.Rows.getD (j+1) default).Values<0))) then _ else _
    cases zjQ r.Columns (r.Rows.getD (j+1) default).Values <;>cases zgO (r.Rows.getD (j+1) default) <;>cases zx (r.Rows.getD (j+1) default).Ann <;>cases decide (ztj (r.Rows.getD j default).Values (r.Rows.getD (j+1) default).Values<0) <;>rfl) (λH K D=>by
   show (zvl r.Rows.length r).ev H K D=_;unfold zvl Wy.ix;simp only [Wy.ev_i,Wy.ev_k,Wy.ev_h,Wy.ev_bn,Wy.ev_d,tT,qr]) (Int.toNat (0:Int)+r.Columns.length+r.Rows.length+(1:Nat)) (by omega)
 replace key:zRV (Int.toNat (0:Int)+r.Columns.length+r.Rows.length+(1:Nat)) 0 r=_:=key;rw [Wy.fin_bn,z3H _ h.cols,q7,Wy.fin_i];cases zAt r.Columns with
 | false=>rfl
 | true=>
  rw [qk,q9,Wy.fin_i,e1024,q9,Wy.fin_bn,key];cases zd5 (vR r) r.Rows.length 0 <;>rfl
def tyL (l:yH):List Int:=l.map λc=>c.Type_
theorem zbjF {a b:yH} (h:a.length=b.length):zd5 (λi=>decide ((a.getD i default).Type_=(b.getD i default).Type_)) a.length 0=decide (tyL a=tyL b):=by
 have e:=zST (a:=tyL a) (b:=tyL b) (by unfold tyL; rw [q1b,q1b,h])
 rw [<- e,show (tyL a).length=a.length by unfold tyL; rw [q1b]]
 refine zLB _ _ λk _ hk=> ?_
 have ga:∀ l:yH,k<l.length->(tyL l).getD k default=(l.getD k default).Type_:=λl hl=>by
  unfold tyL;rw [qi,qi,q14,ql hl]; rfl
 rw [ga a (by omega),ga b (by omega)]
theorem zblK {a b:yH} (h:¬ a.length=b.length):¬ tyL a=tyL b:=λe=>by
 have:=congrArg List.length e;unfold tyL at this;rw [q1b,q1b] at this;exact h this
theorem zbd8 (a b:yH) (ha:a.length<=1000000):zn4 a b=(true,decide (tyL a=tyL b)):=by
 unfold zn4 zER zb9 zeL;rw [Wy.fin_bn,Wy.fin_i,zj1,zAn];by_cases he:a.length=b.length
 ·have key:=zcs (W:=zcS) (z:=.inl default) a.length (λi=>(b,(),a,(a.length:Int),(i:Int),())) (λ_=>()) (λi=>decide ((a.getD i default).Type_=(b.getD i default).Type_)) (.inl false) (.inr ()) (λi hi H K D=>by
    show (zbC b a a.length i).ev H K D=_;unfold zbC Wy.ix;have hi':i<b.length:=by omega
    have hc:(zoE (a.getD i default) (b.getD i default)).2=decide ((a.getD i default).Type_=(b.getD i default).Type_):=zfi _ _;simp only [Wy.ev_i,Wy.ev_k,Wy.ev_h,Wy.ev_bn,Wy.ev_d,tT,hi,hi',hc,zu (show i<4611686018427387904 by omega)]
    cases decide ((a.getD i default).Type_=(b.getD i default).Type_) <;>rfl) (λH K D=>by
    show (zbC b a a.length a.length).ev H K D=_;unfold zbC Wy.ix;simp only [Wy.ev_i,Wy.ev_k,Wy.ev_h,Wy.ev_bn,Wy.ev_d,tT,qr]) (b.length+a.length+(Int.ofNat a.length).toNat +Int.toNat (0:Int)+(1000:Nat)) (by omega)
  replace key:zeJ (b.length+a.length+(Int.ofNat a.length).toNat +Int.toNat (0:Int)+(1000:Nat)) b a (Int.ofNat a.length) 0=_:=key;rw [qg he,qk,q9,Wy.fin_bn,key,zbjF he];cases decide (tyL a=tyL b) <;>rfl
 ·rw [qd he,qd (zblK he)]; rfl
theorem zbnf (n:Nat) (h:n<=4000000):zfX (n:Int)=(true,[]):=by
 have hreach:zD=70368744177664:=rfl;unfold zfX zug;have e0:IntKind.i64.wrap ((0:Int) - 0)=0:=rfl;have e1:IntKind.i64.wrap ((n:Int) - 0)=(n:Int):=by rw [ze5 (by omega) (by omega)]; omega
 have e2:decide ((n:Int)<0)=false:=qd (by omega)
 rw [Wy.fin_i,e2,q9,e0,e1];by_cases hn:(n:Int)>0
 ·have e3:(true&&(decide ((n:Int)*Int.ofNat (48:Nat)<=Int.ofNat zD)&&(decide ((n:Int)<=Int.ofNat zD)&& !Nat.beq (2:Nat) (0:Nat))))=true:=by
   simp only [qa,qb,qw];exact ⟨trivial,by rw [hreach]; omega,by rw [hreach]; omega,rfl⟩
  rw [Wy.fin_i,qg hn,q7,Wy.fin_i,e3,q7,Wy.fin_k];simp
 ·rw [Wy.fin_i,qd hn]; rfl
theorem zbjt (ls:List (yF)) (hn:ls.length<=10) (h:∀ l∈ls,l.length<=300000):zea ls=(true,ls.flatten):=by
 have hreach:zD=70368744177664:=rfl;unfold zea zrT;have e:∀ l:yF,l∈ls->l.length<=300000:=h
 have h1:=zcL (W:=zj0) (z:=default) (l:=ls) (λi (n:Nat)=>(ls,(n:Int),ls,(ls.length:Int),(i:Int),())) (λ_ _=>()) (λy n=>.inl (n+y.length)) (λn=>(ls,(n:Int))) (λi n=>n<=i*300000)
  (λi n hi hI=>.inl ⟨_,rfl,by have:=e _ (zm hi); omega,λH K D=>by
   show (zeB ls n ls ls.length i).ev H K D=_;unfold zeB Wy.ix;have hle:=e _ (zm hi);have hw:IntKind.i64.wrap ((n:Int)+((ls.getD i default).length:Int))=((n+(ls.getD i default).length:Nat):Int):=zmO (by omega)
   simp only [Wy.ev_i,Wy.ev_k,Wy.ev_h,Wy.ev_bn,Wy.ev_d,tT,hi,hw];have h0:decide (((n+(ls.getD i default).length:Nat):Int)<0)=false:=qd (by omega)
   rw [h0,zu (by omega)]; rfl⟩)
  (λn hI H K D=>by
   show (zeB ls n ls ls.length ls.length).ev H K D=_;unfold zeB Wy.ix;simp only [Wy.ev_i,Wy.ev_k,tT,qr]) (ls.length+Int.toNat (0:Int)+ls.length+(Int.ofNat ls.length).toNat +Int.toNat (0:Int)+(1000:Nat)) 0 0 (by omega) (by omega) (by omega)
 rw [qq,zcN] at h1;have h1:zqD (ls.length+Int.toNat (0:Int)+ls.length+(Int.ofNat ls.length).toNat +Int.toNat (0:Int)+(1000:Nat)) ls 0 ls (Int.ofNat ls.length) 0=_:=h1
 have hb:∀ (r:List (yF)) (n:Nat),(∀ l∈r,l.length<=300000)->r.foldl (λn (y:yF)=>n+y.length) n<=n+r.length*300000:=λr=>by
  induction r with
  | nil=>intro n _; simp
  | cons y r ih=>
   intro n hr;have q1:=ih (n+y.length) λl hl=>hr l (by simp [hl])
   have q2:=hr y (by simp)
   rw [q11,qc]; omega
 have hsz:=hb ls 0 h
 have h2:=zcL (W:=zjo) (z:=default) (l:=ls) (λi (out:yF)=>((),ls,(ls.length:Int),(i:Int),())) (λ_ out=>(out,())) (λy out=>.inl (out++y)) (λout=>out) (λi out=>out.length<=i*300000)
  (λi out hi hI=>.inl ⟨_,rfl,by have:=e _ (zm hi); simp only [qf]; omega,λH K D=>by
   show (zem ls ls.length i out).ev H K D=_;unfold zem Wy.ix;have hle:=e _ (zm hi);have hr:decide ((out.length+(ls.getD i default).length)*48<=zD)=true:=by simp only [qb]; omega
   simp only [Wy.ev_i,Wy.ev_k,Wy.ev_h,Wy.ev_bn,Wy.ev_d,tT,hi,hr];rw [zu (by omega)]⟩)
  (λout hI H K D=>by
   show (zem ls ls.length ls.length out).ev H K D=_;unfold zem Wy.ix;simp only [Wy.ev_i,Wy.ev_k,tT,qr]) (ls.length+(Int.ofNat ls.length).toNat +Int.toNat (0:Int)+([]:yF).length+(1000:Nat)) 0 [] (by omega) (by omega) (by simp)
 rw [qq,zcN] at h2;have h2:zpy (ls.length+(Int.ofNat ls.length).toNat +Int.toNat (0:Int)+([]:yF).length+(1000:Nat)) ls (Int.ofNat ls.length) 0 []=_:=h2
 have hf:∀ (r:List (yF)) (out:yF),r.foldl (λout y=>out++y) out=out++r.flatten:=λr=>by
  induction r with
  | nil=>intro out; simp
  | cons y r ih=>intro out; rw [q11,ih,List.flatten_cons,qu]
 rw [Wy.fin_bn,h1,q7];simp only [Wy.fin_bn,zbnf _ (show ls.foldl (λn (y:yF)=>n+y.length) 0<=4000000 by have:=q1z hn (qn 300000); omega),q7,h2,Wy.fin_k]
 rw [hf]; simp
theorem zbkB (a b:yF) (ha:a.length<=1000) (hb:b.length<=1000):zea [a,b]=(true,a++b):=by
 rw [zbjt [a,b] (by simp) (λl hl=>by
  simp only [q8,q16,or_false] at hl;rcases hl with rfl | rfl <;>omega)]
 simp
def zfR (a b:Relation):Relation×Int:=bif !zdT a then (⟨[],[]⟩,1) else bif !zdT b then (⟨[],[]⟩,1) else bif !decide (tyL a.Columns=tyL b.Columns) then (⟨[],[]⟩,7) else zbby ⟨a.Columns,a.Rows++b.Rows⟩
theorem zbhP {a b:Relation} (ha:okRel a) (hb:okRel b) (h:a.Rows.length+b.Rows.length<20):okRel ⟨a.Columns,a.Rows++b.Rows⟩ where
 cols:=ha.cols
 rows:=by show (a.Rows++b.Rows).length<20; rw [qf]; exact h
 row:=λx hx=>by
  rcases q12.1 hx with hx | hx
  ·exact ha.row x hx
  ·exact hb.row x hx
theorem zbfF {a b:Relation} (ha:okRel a) (hb:okRel b) (h:a.Rows.length+b.Rows.length<20):zvZ a b=(true,zfR a b):=by
 have ok:=zbhP ha hb h;have la:=ha.rows;have lb:=hb.rows;unfold zvZ zRC zfR;rw [Wy.fin_bn,zZA a ha,q7,Wy.fin_i];cases zdT a with
 | false=>rfl
 | true=>
  rw [qk,q9,q9,Wy.fin_bn,zZA b hb,q7,Wy.fin_i];cases zdT b with
  | false=>rfl
  | true=>
   rw [qk,q9,q9,Wy.fin_bn,zbd8 _ _ ha.cols,q7,Wy.fin_i];cases decide (tyL a.Columns=tyL b.Columns) with
   | false=>rfl
   | true=>
    rw [qk,q9,q9,Wy.fin_bn,zbkB _ _ (by omega) (by omega),q7,Wy.fin_bn,zbdN _ ok]; rfl
end Go.Proofs.YtoknknbmfmddbaaGreatDoor
/- Sums of valid relations, by what is found in them. -/
set_option maxRecDepth 100000
namespace Go.Proofs.YtoknknbmfmddbaaGreatDoor
open Go Go.Ab
structure NF (M:yF):Prop where
 asc:ztk M
 ok:∀ w∈M,zr7 w
 ne:∀ w∈M,w.Ann≠[]
theorem zblJ {M:yF} (h:∀ i,i+1<M.length->cR (M.getD i default) (M.getD (i+1) default)<0):ztk M:=by
 have all:∀ d i,i+d+1<M.length->cR (M.getD i default) (M.getD (i+d+1) default)<0:=by
  intro d;induction d with
  | zero=>intro i hi; exact h i hi
  | succ d ih=>intro i hi; exact z3J (ih i (by omega)) (h (i+d+1) (by omega))
 refine List.pairwise_iff_getElem.2 λi j hi hj hij=> ?_
 have:=all (j - i - 1) i (by omega)
 rw [show i+(j - i - 1)+1=j by omega] at this
 rw [qi,qi,ql hi,ql hj] at this;exact this
theorem zLY {x:Row}:zgO x=true↔x.Ann≠[]:=by
 unfold zgO; cases x.Ann <;>simp
theorem zuA {r:Relation} (h:okRel r) (hv:zdT r=true):zAt r.Columns=true/\NF r.Rows/\∀ x∈r.Rows,zjQ r.Columns x.Values=true/\zx x.Ann=true:=by
 unfold zdT at hv;rw [qa] at hv
 have key:∀ i,i<r.Rows.length->zjQ r.Columns (r.Rows.getD i default).Values=true/\zgO (r.Rows.getD i default)=true/\zx (r.Rows.getD i default).Ann=true/\(i=0\/cR (r.Rows.getD (i - 1) default) (r.Rows.getD i default)<0):=λi hi=>by
  have:=zdU.1 hv.2 i (by omega) (by omega)
  unfold vR at this
  simpa only [qa,q1w,qb] using this
 have mem:∀ x∈r.Rows,∃ i,i<r.Rows.length/\r.Rows.getD i default=x:=λx hx=>zQI hx
 refine ⟨hv.1,⟨zblJ λi hi=> ?_,λx hx=> ?_,λx hx=> ?_⟩,λx hx=> ?_⟩
 ·have:=(key (i+1) hi).2.2.2;rw [Nat.add_sub_cancel] at this;exact this.resolve_left (by omega)
 ·obtain ⟨i,hi,rfl⟩:=mem x hx;exact ⟨(h.row _ (zm hi)).1,(h.row _ (zm hi)).2.1,(key i hi).2.2.1⟩
 ·obtain ⟨i,hi,rfl⟩:=mem x hx;exact zLY.1 (key i hi).2.1
 ·obtain ⟨i,hi,rfl⟩:=mem x hx;exact ⟨(key i hi).1,(key i hi).2.2.1⟩
theorem zbdT:∀ {l:yF} (s:yB) (v:yG),ztk l->(l.filter λx=>decide (x.Values=v)).foldl (λs x=>zcT s x.Ann) s=zcT s (fnd l v)
 | [],s,v,_=>rfl
 | y::l,s,v,h=>by
  have h':=qh.1 h;rw [q2u,fnd];by_cases e:y.Values=v
  ·rw [qg e,if_pos rfl,if_pos e,q11]
   have:(l.filter λx=>decide (x.Values=v))=[]:=List.filter_eq_nil_iff.2 λx hx=>by
    rw [qb]; intro e2; exact zTl (h'.1 x hx) (e.trans e2.symm)
   rw [this]; rfl
  ·rw [qd e,if_neg (by simp),if_neg e]
   exact zbdT s v h'.2
theorem zH8:∀ {M:yF} (v:yG),(∀ w∈M,zr7 w)->zx (fnd M v)=true
 | [],v,_=>zbhw
 | y::M,v,h=>by
  rw [fnd];split
  ·exact (h y (by simp)).2.2
  ·exact zH8 v λw hw=>h w (by simp [hw])
theorem zbmC {p q:yB} (hp:Srs p) (h:zcT p q=[]):p=[]/\q=[]:=by
 constructor
 ·cases p with
  | nil=>rfl
  | cons t p=>
   obtain ⟨y,y1,_⟩:=(z7X q (t::p) hp t.Fs).2 (.inl ⟨t,by simp,rfl⟩)
   rw [h] at y1; cases y1
 ·cases q with
  | nil=>rfl
  | cons t q=>
   obtain ⟨y,y1,_⟩:=(z7X (t::q) p hp t.Fs).2 (.inr ⟨t,by simp,rfl⟩)
   rw [h] at y1; cases y1
theorem z9G:∀ {M:yF} {x:Row},(∀ w∈M,cR w x<0)->zeY cR zep M x=some (M++[x])
 | [],x,_=>rfl
 | y::M,x,h=>by
  rw [zeY,if_pos (h y (by simp)),z9G λw hw=>h w (by simp [hw])]; rfl
theorem z9N:∀ {l M:yF},ztk (M++l)->l.foldl (λo x=>o.bind λM=>zeY cR zep M x) (some M)=some (M++l)
 | [],M,_=>by simp
 | x::l,M,h=>by
  have hx:=q1m.1 h;rw [q11,q1g,z9G λw hw=>hx.2.2 w hw x (by simp)]
  have e:M++x::l=(M++[x])++l:=by simp
  rw [e] at h ⊢;exact z9N h
def z3o (A B:yF):Option (yF):=B.foldl (λo x=>o.bind λM=>zeY cR zep M x) (some A)
def z4a (cols:yH) (A B:yF):Relation×Int:=match z3o A B with
 | none=>(⟨[],[]⟩,6)
 | some N=>(⟨cols,N⟩,0)
theorem zbcU {A B N:yF} (hA:NF A) (hB:NF B) (h:z3o A B=some N):NF N/\(∀ v,fnd N v=zcT (fnd A v) (fnd B v))/\N.length<=A.length+B.length:=by
 obtain ⟨h1,h2,h3,h4⟩:=zbbI hA.asc hA.ok hB.ok h;have h5:∀ v,fnd N v=zcT (fnd A v) (fnd B v):=λv=>by rw [h3,zbdT _ _ hB.asc]
 refine ⟨⟨h1,h2,λw hw e=> ?_⟩,h5,z3k h⟩
 have e1:=zL4 h1 hw;rw [h5,e] at e1;obtain ⟨z1,z2⟩:=zbmC (zHb (zH8 w.Values hA.ok)).1 e1;rcases h4 w hw with ⟨x,x1,x2⟩ | ⟨x,x1,x2⟩
 ·have:=zL4 hB.asc x1;rw [x2,z2] at this;exact hB.ne x x1 this.symm
 ·have:=zL4 hA.asc x1;rw [x2,z1] at this;exact hA.ne x x1 this.symm
theorem zbhO {cols:yH}:∀ {l:yF},(∀ x∈l,zjQ cols x.Values=true/\zx x.Ann=true)->zJN cols l=0
 | [],_=>rfl
 | y::l,h=>by
  rw [zJN,(h y (by simp)).1,(h y (by simp)).2]
  exact zbhO λx hx=>h x (by simp [hx])
theorem zbhK {a b:Relation} (oa:okRel a) (ob:okRel b) (va:zdT a=true) (vb:zdT b=true) (ec:a.Columns=b.Columns):zfR a b=z4a a.Columns a.Rows b.Rows:=by
 obtain ⟨a1,a2,a3⟩:=zuA oa va;obtain ⟨b1,b2,b3⟩:=zuA ob vb;unfold zfR z4a z3o;rw [va,vb,qg (by rw [ec])]
 simp only [qk,q9];unfold zbby
 have hf:((a.Rows++b.Rows).filter zgO)=a.Rows++b.Rows:=List.filter_eq_self.2 λx hx=>by
  rcases q12.1 hx with hx | hx
  ·exact zLY.2 (a2.ne x hx)
  ·exact zLY.2 (b2.ne x hx)
 have hk:zJN a.Columns (a.Rows++b.Rows)=0:=zbhO λx hx=>by
  rcases q12.1 hx with hx | hx
  ·exact a3 x hx
  ·rw [ec]; exact b3 x hx
 have hA:=z9N (l:=a.Rows) (M:=[]) (by simpa using a2.asc)
 rw [q10] at hA;simp only [a1,hk,hf,if_true,Bool.true_eq_false,if_false,List.foldl_append,hA];cases b.Rows.foldl (λo x=>o.bind λM=>zeY cR zep M x) (some a.Rows) <;>rfl
end Go.Proofs.YtoknknbmfmddbaaGreatDoor
namespace Go.Proofs.YtoknknbmfmddbaaGreatDoor
open Go Go.Ab
end Go.Proofs.YtoknknbmfmddbaaGreatDoor
namespace Go.Proofs.YtoknknbmfmddbaaGreatDoor
open Go Go.Ab
end Go.Proofs.YtoknknbmfmddbaaGreatDoor
namespace Go.Proofs.YtoknknbmfmddbaaGreatDoor
open Go Go.Ab
section
variable {α β ρ σ τ:Type} [Inhabited τ]
def zr1 (f:σ->τ->σ⊕ρ):List τ->σ->σ⊕ρ
 | [],s=>.inl s
 | x::r,s=>match f s x with
  | .inl u=>zr1 f r u
  | .inr v=>.inr v
def zYe (res:σ->ρ):σ⊕ρ->ρ
 | .inl s=>res s
 | .inr v=>v
theorem z5z {W:α->β->Wy α β ρ} {z:ρ} (l:List τ) (ex:Nat->σ->α) (ey:Nat->σ->β) (f:σ->τ->σ⊕ρ) (res:σ->ρ) (I:Nat->σ->Prop)
  (h:∀ i s,i<l.length->I i s->(∀ u,f s (l.getD i default)=.inl u->I (i+1) u)/\∀ (H:α->β->Bool×ρ) K D,(W (ex i s) (ey i s)).ev H K D=match f s (l.getD i default) with | .inl u=>H (ex (i+1) u) (ey (i+1) u) | .inr v=>K v)
  (he:∀ s,I l.length s->∀ (H:α->β->Bool×ρ) K D,(W (ex l.length s) (ey l.length s)).ev H K D=K (res s)):
  ∀ n i s,l.length<i+n->i<=l.length->I i s->zy W z n (ex i s) (ey i s)=(true,zYe res (zr1 f (l.drop i) s))
 | 0,i,s,h1,h2,_=>by omega
 | n+1,i,s,h1,h2,hI=>by
  show (W (ex i s) (ey i s)).ev (zy W z n) (λr=>(true,r)) (false,z)=_
  by_cases hi:i<l.length
  ·obtain ⟨a1,a2⟩:=h i s hi hI;rw [a2,zbd hi];show _=(true,zYe res (match f s (l.getD i default) with | .inl u=>zr1 f (l.drop (i+1)) u | .inr v=>.inr v))
   cases hf:f s (l.getD i default) with
   | inl u=>exact z5z l ex ey f res I h he n (i+1) u (by omega) (by omega) (a1 u hf)
   | inr v=>rfl
  ·have:i=l.length:=by omega
   subst this;rw [he s hI,zb2 hi]; rfl
theorem z2F {W:α->β->Wy α β ρ} {z:ρ} (l:List τ) (ex:Nat->σ->α) (ey:Nat->σ->β) (f:σ->τ->σ⊕ρ) (res:σ->ρ) (I:Nat->σ->Prop)
  (h:∀ i s,i<l.length->I i s->(∀ u,f s (l.getD i default)=.inl u->I (i+1) u)/\∀ (H:α->β->Bool×ρ) K D,(W (ex i s) (ey i s)).ev H K D=match f s (l.getD i default) with | .inl u=>H (ex (i+1) u) (ey (i+1) u) | .inr v=>K v)
  (he:∀ s,I l.length s->∀ (H:α->β->Bool×ρ) K D,(W (ex l.length s) (ey l.length s)).ev H K D=K (res s)) (n:Nat) (s:σ) (hn:l.length<n) (h0:I 0 s):
  zy W z n (ex 0 s) (ey 0 s)=(true,zYe res (zr1 f l s)):=by
 have:=z5z (z:=z) l ex ey f res I h he n 0 s (by omega) (by omega) h0
 simpa using this
end
end Go.Proofs.YtoknknbmfmddbaaGreatDoor
/- Relations: substitution, by the program and the reference; it commutes with sums. -/
set_option maxRecDepth 100000
namespace Go.Proofs.YtoknknbmfmddbaaGreatDoor
open Go Go.Ab
def sbF (l:yE) (out:yF) (x:Row):yF⊕(Int⊕(yH×yF)):=
 if (zhO x.Ann l).2=0 then (if (zhO x.Ann l).1=[] then .inl out else .inl (out++[⟨x.Values,(zhO x.Ann l).1⟩])) else .inr (.inl (zhO x.Ann l).2)
def ofR:Int⊕(yH×yF)->Relation×Int
 | .inl e=>(⟨[],[]⟩,e)
 | .inr p=>(⟨p.1,p.2⟩,0)
def zcC (r:Relation) (l:yE):Relation×Int:=bif !zdT r then (⟨[],[]⟩,1) else ofR (zYe (λout=>.inr (r.Columns,out)) (zr1 (sbF l) r.Rows []))
section
variable {l:yE} (hl:okB l)
include hl
theorem zbh5 (a:yB):decide (Int.ofNat a.length>(0:Int))= !decide (a=[]):=by
 cases a with
 | nil=>rfl
 | cons x r=>
  rw [qd (show ¬ (x::r)=[] by simp)]
  show decide (((r.length+1:Nat):Int)>0)=true;exact qg (by omega)
theorem zbn8 {r:Relation} (ok:okRel r) (hv:∀ x∈r.Rows,zx x.Ann=true) (cols:yH) (n:Nat) (hn:r.Rows.length<n):
  zCh n l r.Rows r.Rows.length (0:Int) cols []=(true,zYe (λout=>.inr (cols,out)) (zr1 (sbF l) r.Rows [])):=by
 have hreach:zD=70368744177664:=rfl;have hrl:=ok.rows
 have key:=z2F (W:=zur) (z:=.inl default) r.Rows (λi out=>(l,(),(),r.Rows,(r.Rows.length:Int),(i:Int),())) (λi (out:yF)=>(((),(),()),(cols,(),()),out,())) (sbF l) (λout=>.inr (cols,out)) (λi out=>out.length<=i)
  (λi out hi hI=>by
   have hx:=ok.row _ (zm hi);have hs:=(zVD hx.2.1 (λh=>hx.2.2 h) hl).1
   refine ⟨λu hu=> ?_,λH K D=> ?_⟩
   ·unfold sbF at hu;split at hu
    ·split at hu
     ·rw [Sum.inl.injEq] at hu; subst hu; omega
     ·rw [Sum.inl.injEq] at hu; subst hu; simp; omega
    ·cases hu
   ·show (zjN l r.Rows r.Rows.length i cols out).ev H K D=_;unfold zjN sbF Wy.ix
    have hc:zcI (r.Rows.getD i default).Values=(true,(r.Rows.getD i default).Values):=by
     unfold zcI;have:=hx.1;rw [qg (zC0 (by omega) (by omega))]
    have hb:decide ((out.length+1)*48<=zD)=true:=by simp only [qb]; omega
    have hb':decide ((out.length+(0+1))*48<=zD)=true:=hb;have hw:IntKind.i64.wrap ((i:Int)+1)=((i+1:Nat):Int):=zu (by omega)
    have hgt:=zbh5 hl (zhO (r.Rows.getD i default).Ann l).1;simp only [Wy.ev_i,Wy.ev_k,Wy.ev_h,Wy.ev_bn,Wy.ev_d,tT,hi,hs,hc,qc,qv,hb,hb',hw,zj1];rw [qw] at hgt;rw [hgt];by_cases e:(zhO (r.Rows.getD i default).Ann l).2=0
    ·rw [qg e,if_pos e,qk,q9];by_cases e2:(zhO (r.Rows.getD i default).Ann l).1=[]
     ·rw [qg e2,if_pos e2]; rfl
     ·rw [qd e2,if_neg e2]; rfl
    ·rw [qd e,if_neg e]; rfl)
  (λout hI H K D=>by
   show (zjN l r.Rows r.Rows.length r.Rows.length cols out).ev H K D=_;unfold zjN Wy.ix;simp only [Wy.ev_i,Wy.ev_k,tT,qr]) n [] hn (by simp)
 exact key
theorem zbn2 {r:Relation} (ok:okRel r) (hv:∀ x∈r.Rows,zx x.Ann=true) (cols:yH) (n:Nat) (hn:r.Rows.length<n):
  zGC n l (0:Int) r cols []=(true,zYe (λout=>.inr (cols,out)) (zr1 (sbF l) r.Rows [])):=by
 have hreach:zD=70368744177664:=rfl;have hrl:=ok.rows
 have key:=z2F (W:=zyx) (z:=.inl default) r.Rows (λi out=>(l,(),(),(),(i:Int),())) (λi (out:yF)=>(r,((),(),()),(cols,(),()),out,())) (sbF l) (λout=>.inr (cols,out)) (λi out=>out.length<=i)
  (λi out hi hI=>by
   have hx:=ok.row _ (zm hi);have hs:=(zVD hx.2.1 (λh=>hx.2.2 h) hl).2
   refine ⟨λu hu=> ?_,λH K D=> ?_⟩
   ·unfold sbF at hu;split at hu
    ·split at hu
     ·rw [Sum.inl.injEq] at hu; subst hu; omega
     ·rw [Sum.inl.injEq] at hu; subst hu; simp; omega
    ·cases hu
   ·show (zmz l i r cols out).ev H K D=_;unfold zmz sbF Wy.ix;have hb:decide ((out.length+1)*48<=zD)=true:=by simp only [qb]; omega
    have hb':decide ((out.length+(0+1))*48<=zD)=true:=hb;have hw:IntKind.i64.wrap ((i:Int)+1)=((i+1:Nat):Int):=zu (by omega)
    have hgt:=zbh5 hl (zhO (r.Rows.getD i default).Ann l).1;simp only [Wy.ev_i,Wy.ev_k,Wy.ev_h,Wy.ev_bn,Wy.ev_d,tT,hi,hs,qc,qv,hb,hb',hw,zj1];rw [qw] at hgt;rw [hgt];by_cases e:(zhO (r.Rows.getD i default).Ann l).2=0
    ·rw [qg e,if_pos e,qk,q9];by_cases e2:(zhO (r.Rows.getD i default).Ann l).1=[]
     ·rw [qg e2,if_pos e2]; rfl
     ·rw [qd e2,if_neg e2]; rfl
    ·rw [qd e,if_neg e]; rfl)
  (λout hI H K D=>by
   show (zmz l r.Rows.length r cols out).ev H K D=_;unfold zmz Wy.ix;simp only [Wy.ev_i,Wy.ev_k,tT,qr]) n [] hn (by simp)
 exact key
theorem zZQ {r:Relation} (ok:okRel r):zht r l=(true,zcC r l)/\zra r l=(true,zcC r l):=by
 constructor
 ·unfold zht zDU zcC;rw [Wy.fin_bn,zZA r ok,q7];cases hv:zdT r with
  | false=>rfl
  | true=>
   have vv:=λx hx=>((zuA ok hv).2.2 x hx).2
   rw [Wy.fin_i,qk,q9,Wy.fin_bn,zbji _ ok.cols,q7,Wy.fin_bn,qw,zbn8 hl ok vv _ _ (by omega),q7]
   cases zYe (λout=>(.inr (r.Columns,out):Int⊕(yH×yF))) (zr1 (sbF l) r.Rows []) with
   | inl e=>rfl
   | inr p=>rfl
 ·unfold zra zIN zcC;rw [Wy.fin_bn,zbgz r ok,q7];cases hv:zdT r with
  | false=>rfl
  | true=>
   have vv:=λx hx=>((zuA ok hv).2.2 x hx).2
   rw [Wy.fin_i,qk,q9,Wy.fin_bn,zbn2 hl ok vv _ _ (by omega),q7]
   cases zYe (λout=>(.inr (r.Columns,out):Int⊕(yH×yF))) (zr1 (sbF l) r.Rows []) with
   | inl e=>rfl
   | inr p=>rfl
end
section
variable {to:RowID->yB} (hto:∀ r,PA (to r))
include hto
theorem zbjR {a:yB} (h:zx a=true):EA (zeW to) a:=((zbgs hto 100).1 a h).1
theorem zbkA {a b:yB} (va:zx a=true) (vb:zx b=true):vlA to (zcT a b)=zcT (vlA to a) (vlA to b):=zbki (zbjR hto va) (zbjR hto vb)
end
theorem zbhs:∀ {l:yE},(∀ b∈l,zx b.To=true)->∀ r,PA (toA l r)
 | [],_,r=>by
  rw [toA]; unfold zp0;cases zw2 r with
  | true=>exact zSF _ (by simp)
  | false=>exact PA.nil
 | b::l,h,r=>by
  rw [toA];split
  ·exact zHb (h b (by simp))
  ·exact zbhs (λc hc=>h c (by simp [hc])) r
theorem zbh4 {a:yB} {l:yE} (hG:zx a=true->GS (zb0 (toA l) a [])) (h:(zhO a l).2=0):(zx a=true/\∀ r,PA (toA l r))/\zhO a l=(vlA (toA l) a,0):=by
 unfold zhO at *;obtain ⟨h1,h2⟩:=z0K h;rw [qa] at h1;have hp:∀ r,PA (toA l r):=zbhs λb hb=>q1d.1 h1.2 b hb
 refine ⟨⟨h1.1,hp⟩, ?_⟩;have hg:=hG h1.1;rw [h2] at h ⊢;cases hs:zb0 (toA l) a [] with
 | inl e=>
  rw [hs] at h hg;exact absurd h hg
 | inr v=>
  have:=(zbnC hp 100).1 a h1.1 [] v PA.nil hs;rw [this]; rfl
theorem zbjS {a:yB} {l:yE} (oa:okA a) (ha:zx a=true->zbv a) (h:okB l):zx a=true->GS (zb0 (toA l) a []):=λhv=>
 ((z0M h 1000).1 9 a (zHx hv (qn 9)) (by omega) oa.2.1 (ha hv) (by omega)).2
def sR (l:yE) (x:Row):Row:=⟨x.Values,(zhO x.Ann l).1⟩
def sbM (l:yE) (M:yF):yF:=(M.map (sR l)).filter zgO
theorem z24 (l:yE) (x:Row) (r:yF):sbM l (x::r)=if (zhO x.Ann l).1=[] then sbM l r else sR l x::sbM l r:=by
 unfold sbM;rw [q1q,q2u];by_cases e:(zhO x.Ann l).1=[]
 ·rw [if_pos e,if_neg (λh=>zLY.1 h e)]
 ·rw [if_neg e,if_pos (zLY.2 e)]
theorem zVe (l:yE):∀ (M out:yF),(∃ e,e≠0/\zr1 (sbF l) M out=.inr (.inl e))\/((∀ x∈M,(zhO x.Ann l).2=0)/\zr1 (sbF l) M out=.inl (out++sbM l M))
 | [],out=>.inr ⟨λx hx=>(by cases hx),(by show (Sum.inl out:yF⊕(Int⊕(yH×yF)))=.inl (out++[]); rw [q1o])⟩
 | x::M,out=>by
  by_cases e:(zhO x.Ann l).2=0
  ·by_cases e2:(zhO x.Ann l).1=[]
   ·have h1:zr1 (sbF l) (x::M) out=zr1 (sbF l) M out:=by
     rw [zr1]; unfold sbF; rw [if_pos e,if_pos e2]
    rcases zVe l M out with h | ⟨h,h2⟩
    ·exact .inl (h1 ▸ h)
    ·refine .inr ⟨λy hy=> ?_,by rw [h1,h2,z24,if_pos e2]⟩
     rcases q8.1 hy with rfl | hy
     ·exact e
     ·exact h y hy
   ·have h1:zr1 (sbF l) (x::M) out=zr1 (sbF l) M (out++[sR l x]):=by
     rw [zr1]; unfold sbF; rw [if_pos e,if_neg e2]; rfl
    rcases zVe l M (out++[sR l x]) with h | ⟨h,h2⟩
    ·exact .inl (h1 ▸ h)
    ·refine .inr ⟨λy hy=> ?_,by rw [h1,h2,z24,if_neg e2,qu]; rfl⟩
     rcases q8.1 hy with rfl | hy
     ·exact e
     ·exact h y hy
  ·exact .inl ⟨_,e,by rw [zr1]; unfold sbF; rw [if_neg e]⟩
theorem zT0 {r:Relation} {l:yE} (h:(zcC r l).2=0):(zdT r=true/\∀ x∈r.Rows,(zhO x.Ann l).2=0)/\zcC r l=(⟨r.Columns,sbM l r.Rows⟩,0):=by
 unfold zcC at *;cases hv:zdT r with
 | false=>rw [hv] at h; cases h
 | true=>
  rw [hv] at h;simp only [qk,q9] at h ⊢;rcases zVe l r.Rows [] with ⟨e,e0,e1⟩ | ⟨h1,h2⟩
  ·rw [e1] at h; exact absurd h e0
  ·rw [h2]; exact ⟨⟨trivial,h1⟩,rfl⟩
theorem z0W {l:yE} {M:yF} {y:Row} (h:y∈sbM l M):∃ x∈M,y=sR l x/\y.Ann≠[]:=by
 unfold sbM at h;obtain ⟨h1,h2⟩:=q2z.1 h;obtain ⟨x,x1,rfl⟩:=q1p.1 h1;exact ⟨x,x1,rfl,zLY.1 h2⟩
theorem zbkz {l:yE} {M:yF} (h:ztk M):ztk (sbM l M):=List.Pairwise.filter _ (List.pairwise_map.2 (h.imp λh=>h))
theorem zbft (l:yE) (M:yF):(sbM l M).length<=M.length:=by
 unfold sbM;refine q18 (q2f _ _) ?_;rw [q1b]; exact qn _
theorem z6P {l:yE} {f:yB->yB} (f0:f []=[]) (v:yG):∀ {M:yF},ztk M->(∀ x∈M,(zhO x.Ann l).1=f x.Ann)->fnd (sbM l M) v=f (fnd M v)
 | [],_,_=>f0.symm
 | x::M,s,h=>by
  have s':=qh.1 s;have hx:=h x (by simp)
  have ih:=z6P f0 v s'.2 λy hy=>h y (by simp [hy])
  rw [z24,fnd];by_cases e:x.Values=v
  ·rw [if_pos e];by_cases e2:(zhO x.Ann l).1=[]
   ·rw [if_pos e2, <- hx,e2];refine z4i λw hw=> ?_
    obtain ⟨y,y1,rfl,_⟩:=z0W hw;show y.Values≠v;rw [<- e];exact (zTl (s'.1 y y1)).symm
   ·rw [if_neg e2,fnd,if_pos (show (sR l x).Values=v from e), <- hx]; rfl
  ·rw [if_neg e];by_cases e2:(zhO x.Ann l).1=[]
   ·rw [if_pos e2,ih]
   ·rw [if_neg e2,fnd,if_neg (show ¬ (sR l x).Values=v from e),ih]
theorem zbmD {a b:yH} (h:tyL a=tyL b) (i:Nat) (hi:i<a.length):(a.getD i default).Type_=(b.getD i default).Type_:=by
 have hlen:a.length=b.length:=by
  have:=congrArg List.length h;unfold tyL at this
  rwa [q1b,q1b] at this
 have ga:∀ l:yH,i<l.length->(tyL l).getD i default=(l.getD i default).Type_:=λl hl=>by
  unfold tyL;rw [qi,qi,q14,ql hl]; rfl
 rw [<- ga a hi, <- ga b (by omega),h]
theorem zbce {a b:yH} (h:tyL a=tyL b):a.length=b.length:=by
 have:=congrArg List.length h;unfold tyL at this
 rwa [q1b,q1b] at this
theorem zbmU {a b:yH} (h:tyL a=tyL b) (v:yG):zjQ a v=zjQ b v:=by
 unfold zjQ;rw [zbce h];congr 1;exact zLB _ _ λk _ hk=>by rw [zbmD h k (by rw [zbce h]; omega)]
theorem zbja {a b:yH} (h:tyL a=tyL b):zAt a=zAt b:=by
 have e:∀ l:yH,l.all zM5=(tyL l).all λt=>decide (0<=t)&&decide (t<=2):=λl=>by
  unfold tyL; rw [List.all_map]; rfl
 unfold zAt;rw [e,e,h,zbce h]
theorem zbiB {a b:Relation} (h:tyL a.Columns=tyL b.Columns):zdT ⟨a.Columns,b.Rows⟩=zdT b:=by
 unfold zdT;rw [show (⟨a.Columns,b.Rows⟩:Relation).Columns=a.Columns from rfl,zbja h]
 congr 1;refine zLB _ _ λk _ hk=> ?_
 unfold vR;rw [show (⟨a.Columns,b.Rows⟩:Relation).Columns=a.Columns from rfl,zbmU h]
theorem z3j {a b:Relation} (oa:okRel a) (ob:okRel b) (h:(zfR a b).2=0):(zdT a=true/\zdT b=true)/\∃ N,z3o a.Rows b.Rows=some N/\zfR a b=(⟨a.Columns,N⟩,0):=by
 cases va:zdT a with
 | false=>unfold zfR at h; rw [va] at h; cases h
 | true=>
  cases vb:zdT b with
  | false=>unfold zfR at h; rw [va,vb] at h; cases h
  | true=>
   refine ⟨⟨rfl,rfl⟩, ?_⟩;by_cases ht:tyL a.Columns=tyL b.Columns
   ·have ob':okRel ⟨a.Columns,b.Rows⟩:=⟨oa.cols,ob.rows,ob.row⟩;have vb':zdT ⟨a.Columns,b.Rows⟩=true:=(zbiB ht).trans vb
    have e:zfR a b=zfR a ⟨a.Columns,b.Rows⟩:=by
     unfold zfR;rw [va,vb,vb',qg ht,qg rfl]
    rw [e,zbhK oa ob' va vb' rfl] at h ⊢;cases hs:z3o a.Rows b.Rows with
    | none=>
     have e6:z4a a.Columns a.Rows b.Rows=(⟨[],[]⟩,6):=by unfold z4a; rw [hs]
     replace h:(z4a a.Columns a.Rows b.Rows).2=0:=h;rw [e6] at h; cases h
    | some N=>exact ⟨N,rfl,by show z4a a.Columns a.Rows b.Rows=_; unfold z4a; rw [hs]⟩
   ·unfold zfR at h; rw [va,vb,qd ht] at h; cases h
theorem zbdp {A N:yF} (h:z3o A []=some N):N=A:=(q26 h).symm
theorem zbld {a b:Relation} {l:yE} (hl:okB l) (oa:okRel a) (ob:okRel b) (ox:okRel (zcC a l).1) (oz:okRel (zcC b l).1) (os:okRel (zfR a b).1) (g1:(zcC a l).2=0) (g2:(zcC b l).2=0) (g3:(zfR a b).2=0)
  (g4:(zcC (zfR a b).1 l).2=0) (g5:(zfR (zcC a l).1 (zcC b l).1).2=0):(zcC (zfR a b).1 l).1=(zfR (zcC a l).1 (zcC b l).1).1:=by
 obtain ⟨⟨va,ka⟩,ea⟩:=zT0 g1;obtain ⟨⟨vb,kb⟩,eb⟩:=zT0 g2;obtain ⟨_,N,hN,eN⟩:=z3j oa ob g3;obtain ⟨⟨vx,vz⟩,K,hK,eK⟩:=z3j ox oz g5;obtain ⟨⟨_,ks⟩,es⟩:=zT0 g4;rw [es,eK];rw [eN] at os ks ⊢;rw [ea] at ox vx hK ⊢;rw [eb] at oz vz hK;obtain ⟨_,na,_⟩:=zuA oa va;obtain ⟨_,nb,_⟩:=zuA ob vb;obtain ⟨_,nx,_⟩:=zuA ox vx;obtain ⟨_,nz,_⟩:=zuA oz vz;obtain ⟨nN,fN,_⟩:=zbcU na nb hN;obtain ⟨nK,fK,_⟩:=zbcU nx nz hK;show (⟨a.Columns,sbM l N⟩:Relation)=⟨a.Columns,K⟩;congr 1;by_cases hto:∀ r,PA (toA l r)
 ·have sub:∀ (M:yF),(∀ x∈M,zr7 x)->(∀ x∈M,zx x.Ann=true->zbv x.Ann)->(∀ x∈M,(zhO x.Ann l).2=0)->∀ x∈M,(zhO x.Ann l).1=vlA (toA l) x.Ann:=λM o1 o2 o3 x hx=>by
   obtain ⟨_,e⟩:=zbh4 (zbjS (o1 x hx).2.1 (o2 x hx) hl) (o3 x hx);rw [e]
  have f0:vlA (toA l) []=[]:=rfl;refine zbkm (zbkz nN.asc) nK.asc (λw hw=> ?_) nK.ne λv=> ?_
  ·obtain ⟨_,_,_,e⟩:=z0W hw; exact e
  ·have x1:=z6P f0 v nN.asc (sub N nN.ok (λx hx=>(os.row x hx).2.2) ks)
   have x2:=z6P f0 v na.asc (sub a.Rows na.ok (λx hx=>(oa.row x hx).2.2) ka)
   have x3:=z6P f0 v nb.asc (sub b.Rows nb.ok (λx hx=>(ob.row x hx).2.2) kb)
   rw [x1,fN,zbkA hto (zH8 v na.ok) (zH8 v nb.ok), <- x2, <- x3,fK]
 ·have none:∀ {r:Relation} (o:okRel r) (k:∀ x∈r.Rows,(zhO x.Ann l).2=0),r.Rows=[]:=λ{r} o k=>by
   cases hr:r.Rows with
   | nil=>rfl
   | cons x R=>
    have hx:x∈r.Rows:=by rw [hr]; simp
    exact absurd (zbh4 (zbjS (o.row x hx).2.1 (o.row x hx).2.2 hl) (k x hx)).1.2 hto
  have a0:=none oa ka;have b0:=none ob kb;rw [a0,b0] at hN hK;rw [zbdp hN,zbdp hK]
theorem z97 {r:Relation} {l:yE} (hl:okB l) (ok:okRel r) (hs:(∀ b∈l,zx b.To=true)->∀ b∈l,zbv b.To) (h:(zcC r l).2=0):okRel (zcC r l).1/\(zcC r l).1.Rows.length<=r.Rows.length:=by
 obtain ⟨⟨v,k⟩,e⟩:=zT0 h;rw [e];have hlen:=zbft l r.Rows;have hr:=ok.rows;refine ⟨⟨ok.cols,by show (sbM l r.Rows).length<20; omega,λy hy=> ?_⟩,hlen⟩
 obtain ⟨x,x1,rfl,_⟩:=z0W hy;have hx:=ok.row x x1;exact ⟨hx.1,(zbfy hx.2.1 hx.2.2 hl).1,λ_=>zbkb hx.2.2 hs⟩
theorem z9U {r:Relation} {l:yE} (hl:okB l) (ok:okRel r):(zcC r l).1.Columns.length<=1000000/\(zcC r l).1.Rows.length<=1000000/\∀ y∈(zcC r l).1.Rows,y.Values.length<=1000000/\okA y.Ann:=by
 have e0:∀ e:Int,((⟨[],[]⟩:Relation),e).1.Columns.length<=1000000/\((⟨[],[]⟩:Relation),e).1.Rows.length<=1000000/\∀ y∈((⟨[],[]⟩:Relation),e).1.Rows,y.Values.length<=1000000/\okA y.Ann:=λe=>⟨by simp,by simp,λy hy=>by cases hy⟩
 unfold zcC;cases zdT r with
 | false=>exact e0 1
 | true=>
  simp only [qk,q9];rcases zVe l r.Rows [] with ⟨e,_,e1⟩ | ⟨h1,h2⟩
  ·rw [e1]; exact e0 e
  ·rw [h2];have hlen:=zbft l r.Rows;have hr:=ok.rows;refine ⟨ok.cols,by show ([]++sbM l r.Rows).length<=_; rw [q10]; omega,λy hy=> ?_⟩
   replace hy:y∈[]++sbM l r.Rows:=hy;rw [q10] at hy;obtain ⟨x,x1,rfl,_⟩:=z0W hy;exact ⟨(ok.row x x1).1,(zbfy (ok.row x x1).2.1 (ok.row x x1).2.2 hl).1⟩
end Go.Proofs.YtoknknbmfmddbaaGreatDoor
/- The law of substitution in relations. -/
set_option maxRecDepth 100000
namespace Go.Proofs.YtoknknbmfmddbaaGreatDoor
open Go Go.Ab
theorem zJj (e:Int):(e != e)=false:=by rw [zj1]; simp
theorem zZe {e:Int} (h:¬ e=0):(e != (0:Int))=true:=by rw [zj1,qd h]; rfl
theorem zbh0 {M:yF} (h:∀ x∈M,zbv x.Ann) (v:yG):zbv (fnd M v):=by
 by_cases e:fnd M v=[]
 ·rw [e]; exact zt9
 ·obtain ⟨w,w1,_,w3⟩:=z3O e;rw [<- w3]; exact h w w1
theorem zbhZ {cols:yH} {A B N:yF} (hc:cols.length<=1000000) (hA:NF A) (hB:NF B) (sA:∀ x∈A,zbv x.Ann) (sB:∀ x∈B,zbv x.Ann) (hl:A.length+B.length<20) (h:z3o A B=some N):okRel ⟨cols,N⟩:=by
 obtain ⟨n1,n2,n3⟩:=zbcU hA hB h;refine ⟨hc,by show N.length<20; omega,λx hx=>⟨(n1.ok x hx).1,(n1.ok x hx).2.1,λ_=> ?_⟩⟩
 have e:=zL4 n1.asc hx;rw [<- e,n2];exact zbg9 (zHb (zH8 _ hA.ok)).1 (zbh0 sA _) (zbh0 sB _)
theorem zbg7 {a b:Relation} (oa:okRel a) (ob:okRel b) (hl:a.Rows.length+b.Rows.length<20) (h:(zfR a b).2=0):okRel (zfR a b).1:=by
 obtain ⟨⟨va,vb⟩,N,hN,e⟩:=z3j oa ob h;obtain ⟨_,na,a3⟩:=zuA oa va;obtain ⟨_,nb,b3⟩:=zuA ob vb;rw [e];exact zbhZ oa.cols na nb (λx hx=>(oa.row x hx).2.2 (a3 x hx).2) (λx hx=>(ob.row x hx).2.2 (b3 x hx).2) hl hN
theorem zbhM {x:Relation} {e:Int} (h:x.Columns.length<=1000000/\x.Rows.length<=1000000/\∀ y∈x.Rows,y.Values.length<=1000000/\okA y.Ann):zAM x e x e=(true,true):=by
 unfold zAM zYb;rw [Wy.fin_i,beq_self_eq_true,q7,Wy.fin_bn,zbhk _ _ h.1 h.2.1 h.2.2,qg rfl]; rfl
theorem zW2 (a b:Relation) (l:yE) (ha:zbdq a) (hb:zbdq b) (hl:zbmS l):ze6 a b l=(true,true):=by
 have hlen:l.length<=140737488351232:=hl.2
 have key:∀ (n i:Nat),l.length<i+n->i<=l.length->∃ x,zuP n l i a b=(true,x)/\(x=.inl true\/(x=.inr (l,a,b)/\∀ b∈l.drop i,okA b.To/\zeo b.To<=12)):=by
  intro n;induction n with
  | zero=>intro i h1 h2; omega
  | succ n ih=>
   intro i h1 h2;show ∃ x,(zl6 l i a b).ev (zy zmf (.inl default) n) (λr=>(true,r)) (false,.inl default)=(true,x)/\_
   unfold zl6 Wy.ix;by_cases hi:i<l.length
   ·have hw:=(hl.1 _ (zm hi)).2;obtain ⟨q,q1,q2⟩:=zbl2 (n:=12) (by omega) hw
    replace q1:zwo (12:Int) [(l.getD i default).To]=(true,q):=q1;simp only [Wy.ev_i,Wy.ev_k,Wy.ev_h,Wy.ev_bn,Wy.ev_d,tT,hi,q1];cases q with
    | false=>exact ⟨_,rfl,.inl rfl⟩
    | true=>
     simp only [qk,q9,zu (show i<4611686018427387904 by omega)]
     obtain ⟨x,x1,x2⟩:=ih (i+1) (by omega) (by omega)
     refine ⟨x,x1, ?_⟩;rcases x2 with x2 | ⟨x2,x3⟩
     ·exact .inl x2
     ·refine .inr ⟨x2,λb hb=> ?_⟩
      rw [zbd hi] at hb;rcases q8.1 hb with rfl | hb
      ·exact q2 rfl
      ·exact x3 b hb
   ·simp only [Wy.ev_i,Wy.ev_k,Wy.ev_h,Wy.ev_bn,Wy.ev_d,tT,hi];exact ⟨_,rfl,.inr ⟨rfl,λb hb=>by rw [zb2 hi] at hb; cases hb⟩⟩
 have l14:okRel a->okRel b->a.Rows.length<=8->b.Rows.length<=8->okB l->((∀ b∈l,zx b.To=true)->∀ b∈l,zbv b.To)->ztn 1 l (zcC a l).2 a b (zcC a l).1=(true,true):=λoa ob la lb hB hS=>by
  show (zlo l (zcC a l).2 a b (zcC a l).1).ev (zy zlf default 0) (λr=>(true,r)) (false,default)=_
  unfold zlo;rw [Wy.ev_bn,(zZQ hB ob).1,q7,Wy.ev_bn,zbfF oa ob (by omega),q7,Wy.ev_i]
  by_cases g1:(zcC a l).2=0
  ·by_cases g2:(zcC b l).2=0
   ·by_cases g3:(zfR a b).2=0
    ·rw [g1,g2,g3,zJj];obtain ⟨ox,lx⟩:=z97 hB oa hS g1;obtain ⟨oz,lz⟩:=z97 hB ob hS g2;have os:=zbg7 oa ob (by omega) g3
     have l18:zt8 1 l (zcC a l).1 (zcC b l).1 (zfR a b).1=(true,true):=by
      show (zlG l (zcC a l).1 (zcC b l).1 (zfR a b).1).ev (zy zlm default 0) (λr=>(true,r)) (false,default)=_
      unfold zlG;rw [Wy.ev_bn,(zZQ hB os).1,q7,Wy.ev_bn,zbfF ox oz (by omega),q7,Wy.ev_i]
      by_cases g4:(zcC (zfR a b).1 l).2=0
      ·by_cases g5:(zfR (zcC a l).1 (zcC b l).1).2=0
       ·have e:=zbld hB oa ob ox oz os g1 g2 g3 g4 g5;have k:=z9U hB os
        have q:zqZ (zcC (zfR a b).1 l).1 (zfR (zcC a l).1 (zcC b l).1).1=(true,true):=by
         rw [zbeN _ _ k.1 k.2.1 k.2.2,qg e]
        rw [g4,g5,zJj,q9,Wy.ev_i,q9,Wy.ev_bn,q]; rfl
       ·rw [g4,zJj,zZe g5]; rfl
      ·rw [zZe g4]; rfl
     rw [q9,Wy.ev_i,q9,Wy.ev_i,q9,Wy.ev_bn,l18]; rfl
    ·rw [g1,g2,zJj,zZe g3]; rfl
   ·rw [g1,zJj,zZe g2]; rfl
  ·rw [zZe g1]; rfl
 have l5:okRel a->okRel b->a.Rows.length<=8->b.Rows.length<=8->l.length<=4->zuQ 1 l a b=(true,true):=λoa ob la lb h4=>by
  show (zmg l a b).ev (zy zl7 default 0) (λr=>(true,r)) (false,default)=_
  unfold zmg;obtain ⟨x,x1,x2⟩:=key (l.length+Int.toNat (0:Int)+a.Columns.length+a.Rows.length+b.Columns.length+b.Rows.length+(1000:Nat)) 0 (by omega) (by omega)
  rw [show ((0:Nat):Int)=(0:Int) from rfl] at x1
  rw [qq] at x2;rw [Wy.ev_bn,x1,q7,Wy.ev_i];rcases x2 with rfl | ⟨rfl,x2⟩
  ·rfl
  ·have hB:okB l:=⟨by omega,λb hb=>(x2 b hb).1⟩
   have hS:(∀ b∈l,zx b.To=true)->∀ b∈l,zbv b.To:=λhv b hb=>zTE 100 b.To (hv b hb) (by have:=(x2 b hb).2; omega)
   have hs:=zZQ hB oa;have e:zAM (zcC a l).1 (zcC a l).2 (zcC a l).1 (zcC a l).2=(true,true):=zbhM (z9U hB oa);simp only [isL,getR,q9,Wy.ev_i,Wy.ev_bn,Wy.ev_k,hs.1,hs.2,e,q7,qk,l14 oa ob la lb hB hS]
 have l3:zuW 1 l a b=(true,true):=by
  show (zl9 l a b).ev (zy zl3 default 0) (λr=>(true,r)) (false,default)=_
  unfold zl9
  obtain ⟨q,q1,q2⟩:=zbnT 8 20 [a,b] (by omega) (by omega) (by simp) (λr hr=>by
   simp only [q8,q16,or_false] at hr;rcases hr with rfl | rfl
   ·exact ha
   ·exact hb)
  replace q1:zD1 (8:Int) (20:Int) [a,b]=(true,q):=q1;have e4:decide (Int.ofNat l.length>(4:Int))=decide (l.length>4):=zjR _ 4;rw [Wy.ev_bn,q1,q7,Wy.ev_i];cases q with
  | false=>rfl
  | true=>
   have ka:=q2 rfl a (by simp)
   have kb:=q2 rfl b (by simp)
   rw [qk,q9,Wy.ev_i,e4];by_cases h4:l.length>4
   ·rw [qg h4]; rfl
   ·rw [qd h4,q9,Wy.ev_bn,l5 (ka.ok (by omega) (by omega)) (kb.ok (by omega) (by omega)) ka.rows kb.rows (by omega)]; rfl
 unfold ze6 zvE;rw [Wy.fin_bn,l3]; rfl
end Go.Proofs.YtoknknbmfmddbaaGreatDoor
end
