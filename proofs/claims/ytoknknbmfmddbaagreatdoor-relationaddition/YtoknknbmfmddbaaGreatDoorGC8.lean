/- Texts of this claim, joined (the program, its functions in plain words, and what they compute). -/
import Derived.Test.YtoknknbmfmddbaaGreatDoorGC7
set_option autoImplicit false
set_option linter.unusedVariables false
set_option linter.unusedSectionVars false
set_option linter.unusedSimpArgs false
set_option maxRecDepth 1000000
set_option maxHeartbeats 0
/- The library's stable merge sort at rows, and is stable, for fewer than forty of them. -/
noncomputable section
namespace Go.Proofs.YtoknknbmfmddbaaGreatDoor
open Go Go.Ab
theorem z3f (k:Nat) {n bs a b:Int} (D:yF) (h:¬ b<=n):zdP (k+1) n bs a b D=(true,(n,bs,a,D)):=by
 show (zeX n bs a b D).ev _ _ _=_;unfold zeX;rw [Wy.ev_i,decide_eq_false h]; rfl
theorem z90 (k:Nat) {n bs a b:Int} {D D':yF} (h:b<=n) (e:zcg D a b=(true,D')):zdP (k+1) n bs a b D=zdP k n bs b (IntKind.i64.wrap (b+bs)) D':=by
 show (zeX n bs a b D).ev _ _ _=_;unfold zeX;rw [Wy.ev_i,decide_eq_true h,cond_true,Wy.ev_bn,e]; rfl
theorem z95 (k:Nat) {n bs a b:Int} (D:yF) (h:¬ b<=n):zk1 (k+1) n bs a b D=(true,(n,bs,a,D)):=by
 show (zkZ n bs a b D).ev _ _ _=_;unfold zkZ;rw [Wy.ev_i,decide_eq_false h]; rfl
theorem zXp (k:Nat) {n bs:Int} (D:yF) (h:¬ bs<n):zdQ (k+1) n bs D=(true,D):=by
 show (zeW n bs D).ev _ _ _=_;unfold zeW;rw [Wy.ev_i,decide_eq_false h]; rfl
theorem z9E (k:Nat) {n:Int} {D D':yF} (h:20<n) (h4:n<40) (e:zhS D 0 20 n=(true,D')):zdQ (k+2) n 20 D=(true,D'):=by
 show (zeW n 20 D).ev _ _ _=_;unfold zeW;have w:IntKind.i64.wrap ((2:Int)*20)=40:=by decide
 have w2:IntKind.i64.wrap ((0:Int)+20)=20:=by decide
 have w3:IntKind.i64.wrap ((20:Int)*2)=40:=by decide
 have e9:zk1 (n.toNat +Int.toNat (20:Int)+Int.toNat (0:Int)+Int.toNat (40:Int)+D.length+(1000:Nat)) n 20 0 40 D=(true,(n,20,0,D)):=z95 (n.toNat +Int.toNat (20:Int)+Int.toNat (0:Int)+Int.toNat (40:Int)+D.length+999) D (by omega)
 simp only [Wy.ev_i,Wy.ev_bn,Wy.ev_k,Wy.ev_h,decide_eq_true h,cond_true,w,e9,w2,e,w3];exact zXp k D' (by omega)
theorem zbbh {U:Row->Prop} (hU:OW U) {l:yF} (u:∀ y∈l,U y) (h4:l.length<40):∃ Z,zcu l=(true,Z)/\PS U Z l/\ze1 Z:=by
 suffices h:∃ Z,zf2 l (Int.ofNat l.length)=(true,Z)/\PS U Z l/\ze1 Z by
  obtain ⟨Z,k1,k2,k3⟩:=h;refine ⟨Z, ?_,k2,k3⟩;unfold zcu zlt;rw [Wy.fin_bn,k1]; rfl
 rw [Int.ofNat_eq_natCast];unfold zf2 zth;by_cases hl:l.length<20
 ·have e2:zdP (Int.toNat (l.length:Int)+Int.toNat (20:Int)+Int.toNat (0:Int)+Int.toNat (20:Int)+l.length+(1000:Nat)) l.length 20 0 20 l=(true,((l.length:Int),20,0,l)):=z3f (Int.toNat (l.length:Int)+Int.toNat (20:Int)+Int.toNat (0:Int)+Int.toNat (20:Int)+l.length+999) l (by omega)
  obtain ⟨Z,k1,k2,k3⟩:=z8R hU [] l [] (by simp; omega) u (by omega) 0 (l.length:Int) (by simp) (by simp)
  have e7:zdQ (Int.toNat (l.length:Int)+Int.toNat (20:Int)+Z.length+(1000:Nat)) l.length 20 Z=(true,Z):=zXp (Int.toNat (l.length:Int)+Int.toNat (20:Int)+Z.length+999) Z (by omega)
  rw [List.nil_append,List.append_nil,List.nil_append,List.append_nil] at k1;refine ⟨Z, ?_,k2,k3⟩;simp only [Wy.fin_bn,e2,k1,e7,cond_true,Wy.fin_k]
 ·have eA:l.take 20++l.drop 20=l:=List.take_append_drop 20 l;have lA:(l.take 20).length=20:=by rw [List.length_take]; omega
  have lB:(l.drop 20).length=l.length - 20:=List.length_drop;obtain ⟨A,a1,a2,a3⟩:=z8R hU [] (l.take 20) (l.drop 20) (by simp; omega) (λy hy=>u y (List.mem_of_mem_take hy)) (by omega) 0 20 (by simp) (by simp [lA])
  rw [List.nil_append,List.nil_append,eA] at a1;have lA':A.length=20:=by rw [a2.perm.length_eq,lA]
  obtain ⟨B,b1,b2,b3⟩:=z8R hU A (l.drop 20) [] (by simp; omega) (λy hy=>u y (List.mem_of_mem_drop hy)) (by omega) 20 (l.length:Int) (by simp [lA']) (by rw [lA',lB]; omega)
  rw [List.append_nil,List.append_nil] at b1;have lB':B.length=l.length - 20:=by rw [b2.perm.length_eq,lB]
  have w2:IntKind.i64.wrap ((20:Int)+20)=40:=by decide
  have e2:zdP (Int.toNat (l.length:Int)+Int.toNat (20:Int)+Int.toNat (0:Int)+Int.toNat (20:Int)+l.length+(1000:Nat)) l.length 20 0 20 l=(true,((l.length:Int),20,20,A++l.drop 20)):=by
   have:=z90 (Int.toNat (l.length:Int)+Int.toNat (20:Int)+Int.toNat (0:Int)+Int.toNat (20:Int)+l.length+999) (n:=(l.length:Int)) (bs:=20) (by omega) a1
   rw [w2] at this;exact this.trans (z3f (Int.toNat (l.length:Int)+Int.toNat (20:Int)+Int.toNat (0:Int)+Int.toNat (20:Int)+l.length+998) _ (by omega))
  have hp:PS U (A++B) l:=by
   have:=a2.append b2
   rwa [eA] at this
  by_cases h20:l.length=20
  ·have:B=[]:=List.length_eq_zero_iff.1 (by omega)
   subst this;rw [List.append_nil] at b1 hp;have e7:zdQ (Int.toNat (l.length:Int)+Int.toNat (20:Int)+A.length+(1000:Nat)) l.length 20 A=(true,A):=zXp (Int.toNat (l.length:Int)+Int.toNat (20:Int)+A.length+999) A (by omega)
   refine ⟨A, ?_,hp,a3⟩;simp only [Wy.fin_bn,e2,b1,e7,cond_true,Wy.fin_k]
  ·obtain ⟨Z,k1,k2,k3⟩:=zbaj hU 1000 [] A B [] 0 20 (l.length:Int) (by simp; omega) (by omega) (by omega) (by omega) (λy hy=>u y (hp.perm.mem_iff.1 hy)) a3 b3 (by simp) (by simp [lA']) (by simp [lA',lB']; omega)
   rw [List.nil_append,List.append_nil,List.nil_append,List.append_nil] at k1;have e7:zdQ (Int.toNat (l.length:Int)+Int.toNat (20:Int)+(A++B).length+(1000:Nat)) l.length 20 (A++B)=(true,Z):=z9E (Int.toNat (l.length:Int)+Int.toNat (20:Int)+(A++B).length+998) (by omega) (by omega) k1
   refine ⟨Z, ?_,k2.trans hp,k3⟩;simp only [Wy.fin_bn,e2,b1,e7,cond_true,Wy.fin_k]
def zBi (x:Row):yF->yF
 | []=>[x]
 | y::r=>if (zbV x y).2<0 then x::y::r else y::zBi x r
def zIz (l:yF):yF:=l.foldl (λs x=>zBi x s) []
theorem z00 (x:Row):∀ l,(zBi x l).Perm (x::l)
 | []=>.refl _
 | y::r=>by
  rw [zBi];split
  ·exact .refl _
  ·exact ((z00 x r).cons y).trans (.swap x y r)
section
variable {U:Row->Prop} (h:OW U)
include h
theorem zY2 {x:Row} (hx:U x):¬ ltW x x:=λk=>h.asym x x hx hx k k
theorem z3n {x:Row} (hx:U x):∀ l,(∀ y∈l,U y)->ze1 l->ze1 (zBi x l)
 | [],_,_=>by simp [zBi]
 | y::r,u,a=>by
  have a':=qi.1 a;rw [zBi];split
  ·rename_i hlt;refine qi.2 ⟨λz hz=> ?_,a⟩
   have hy:¬ ltW y x:=h.asym x y hx (u y (by simp)) hlt
   rcases qd.1 hz with rfl | hz
   ·exact hy
   ·exact h.ntr z y x (u z (by simp [hz])) (u y (by simp)) hx (a'.1 z hz) hy
  ·rename_i hlt;refine qi.2 ⟨λz hz=> ?_,z3n hx r (λy hy=>u y (by simp [hy])) a'.2⟩
   rcases qd.1 ((z00 x r).mem_iff.1 hz) with rfl | hz
   ·exact hlt
   ·exact a'.1 z hz
theorem z5v {x:Row} (hx:U x):∀ l,(∀ y∈l,U y)->ze1 l->PS U (zBi x l) (l++[x])
 | [],_,_=>PS.refl _
 | y::r,u,a=>by
  have a':=qi.1 a;rw [zBi];split
  ·rename_i hlt;refine PS.swap h (A:=[x]) (B:=y::r) (λz hz=>by rw [qh.1 hz]; exact hx) u λz hz b hb=> ?_
   rw [qh.1 hz];rcases qd.1 hb with rfl | hb
   ·exact .inl hlt
   ·exact .inl (Classical.byContradiction λhn=>h.ntr x b y hx (u b (by simp [hb])) (u y (by simp)) hn (a'.1 b hb) hlt)
  ·exact (PS.refl (U:=U) [y]).append (z5v hx r (λy hy=>u y (by simp [hy])) a'.2)
theorem zW5:∀ l s,(∀ y∈s++l,U y)->ze1 s->ze1 (l.foldl (λs x=>zBi x s) s)/\PS U (l.foldl (λs x=>zBi x s) s) (s++l)
 | [],s,u,a=>⟨a,by rw [List.append_nil]; exact PS.refl _⟩
 | x::l,s,u,a=>by
  have hx:U x:=u x (by simp)
  have us:∀ y∈s,U y:=λy hy=>u y (by simp [hy])
  have p:=z5v h hx s us a
  obtain ⟨k1,k2⟩:=zW5 l (zBi x s) (λy hy=>by
   rcases List.mem_append.1 hy with hy | hy
   ·rcases List.mem_append.1 (p.perm.mem_iff.1 hy) with hy | hy
    ·exact us y hy
    ·rw [qh.1 hy]; exact hx
   ·exact u y (by simp [hy])) (z3n h hx s us a)
  refine ⟨k1,k2.trans ?_⟩;have:=p.append (PS.refl (U:=U) l)
  rwa [List.append_assoc] at this
theorem PS.uniq:∀ {Z L:yF},(∀ y∈L,U y)->ze1 Z->ze1 L->PS U Z L->Z=L
 | [],L,_,_,_,p=>p.perm.nil_eq
 | z::Z,[],_,_,_,p=>p.perm.eq_nil
 | z::Z,l::L,u,a,b,p=>by
  have hz:z∈l::L:=p.perm.mem_iff.1 (by simp)
  have hl:l∈z::Z:=p.perm.mem_iff.2 (by simp)
  have uz:=u z hz
  have h1:¬ ltW l z:=by
   rcases qd.1 hl with e | hl
   ·rw [e]; exact zY2 h uz
   ·exact (qi.1 a).1 l hl
  have h2:¬ ltW z l:=by
   rcases qd.1 hz with e | hz
   ·rw [e]; exact zY2 h (u l (by simp))
   ·exact (qi.1 b).1 z hz
  have c1:clW z z=true:=zU2.2 ⟨zY2 h uz,zY2 h uz⟩;have c2:clW z l=true:=zU2.2 ⟨h2,h1⟩;have f:=p.stab z uz;rw [List.filter_cons_of_pos c1,List.filter_cons_of_pos c2] at f;injection f with e f'
  subst e;refine congrArg _ (PS.uniq (λy hy=>u y (by simp [hy])) (qi.1 a).2 (qi.1 b).2 ⟨(List.perm_cons z).1 p.perm,λv hv=> ?_⟩)
  have f:=p.stab v hv;by_cases hc:clW v z=true
  ·rw [List.filter_cons_of_pos hc,List.filter_cons_of_pos hc] at f;injection f
  ·rw [List.filter_cons_of_neg hc,List.filter_cons_of_neg hc] at f;exact f
theorem zbav {l:yF} (u:∀ y∈l,U y) (h4:l.length<40):zcu l=(true,zIz l):=by
 obtain ⟨Z,k1,k2,k3⟩:=zbbh h u h4;obtain ⟨m1,m2⟩:=zW5 h l [] u .nil;rw [k1];refine congrArg _ (PS.uniq h (λy hy=>u y (m2.perm.mem_iff.1 hy)) k3 m1 (k2.trans ?_))
 exact ⟨m2.perm.symm,λv hv=>(m2.stab v hv).symm⟩
end
section
variable {ρ:Type} (c:ρ->ρ->Int) (add:ρ->ρ->Option ρ)
def zdr:List ρ->ρ->Option (List ρ)
 | [],x=>some [x]
 | y::l,x=>if c y x<0 then (zdr l x).map (y::·) else if c y x=0 then (add y x).map (· ::l) else some (x::y::l)
def zgW:ρ->List ρ->Option (List ρ)
 | w,[]=>some [w]
 | w,x::r=>if c w x=0 then (add w x).bind λz=>zgW z r else (zgW x r).map (w::·)
def mrg:List ρ->Option (List ρ)
 | []=>some []
 | x::r=>zgW c add x r
def zyR (x:ρ):List ρ->List ρ
 | []=>[x]
 | y::r=>if c x y<0 then x::y::r else y::zyR x r
structure MO (V:ρ->Prop):Prop where
 anti:∀ x y,V x->V y->(c x y<0↔0<c y x)
 trans:∀ x y z,V x->V y->V z->c x y<=0->c y z<=0->c x z<=0
 key:∀ x y z,V x->V y->add x y=some z->V z/\∀ w,V w->(c z w=c x w/\c w z=c w x)
variable {c add} {V:ρ->Prop} (h:MO c add V)
include h
theorem MO.zero {x y:ρ} (hx:V x) (hy:V y):c x y=0↔c y x=0:=by
 have h1:=h.anti x y hx hy;have h2:=h.anti y x hy hx;omega
theorem MO.lt1 {x y z:ρ} (hx:V x) (hy:V y) (hz:V z) (h1:c x y<0) (h2:c y z<=0):c x z<0:=by
 have a:=h.trans x y z hx hy hz (by omega) h2
 have b1:=h.anti x y hx hy;have b2:=h.anti y x hy hx;have b3:=h.anti x z hx hz;have b4:=h.anti z x hz hx;have b5:=h.anti y z hy hz;by_cases e:c x z=0
 ·have:=h.trans y z x hy hz hx h2 (by omega)
  omega
 ·omega
theorem MO.lt2 {x y z:ρ} (hx:V x) (hy:V y) (hz:V z) (h1:c x y<=0) (h2:c y z<0):c x z<0:=by
 have a:=h.trans x y z hx hy hz h1 (by omega)
 have b1:=h.anti x y hx hy;have b2:=h.anti y x hy hx;have b3:=h.anti x z hx hz;have b4:=h.anti z x hz hx;have b5:=h.anti y z hy hz;by_cases e:c x z=0
 ·have:=h.trans z x y hz hx hy (by omega) h1
  omega
 ·omega
theorem z1h:∀ (r:List ρ) (w:ρ) (M:List ρ),V w->(∀ y∈r,V y)->zgW c add w r=some M->∃ m t,M=m::t/\V m/\∀ x,V x->(c m x=c w x/\c x m=c x w)
 | [],w,M,hw,_,e=>by
  rw [zgW,qa] at e;exact ⟨w,[],e.symm,hw,λx _=>⟨rfl,rfl⟩⟩
 | x::r,w,M,hw,u,e=>by
  rw [zgW] at e;split at e
  ·cases ea:add w x with
   | none=>rw [ea] at e; cases e
   | some z=>
    rw [ea] at e;obtain ⟨k1,k2⟩:=h.key w x z hw (u x (by simp)) ea
    obtain ⟨m,t,e1,e2,e3⟩:=z1h r z M k1 (λy hy=>u y (by simp [hy])) e
    exact ⟨m,t,e1,e2,λy hy=>⟨(e3 y hy).1.trans (k2 y hy).1,(e3 y hy).2.trans (k2 y hy).2⟩⟩
  ·cases ea:zgW c add x r with
   | none=>rw [ea] at e; cases e
   | some M'=>
    rw [ea] at e;rw [Option.map_some,qa] at e;exact ⟨w,M',e.symm,hw,λx _=>⟨rfl,rfl⟩⟩
theorem z1p {r:List ρ} {w x:ρ} (hw:V w) (hx:V x) (u:∀ y∈r,V y) (hxw:c x w<0):(zgW c add w r).map (x::·)=(zgW c add w r).bind (λM=>zdr c add M x):=by
 cases e:zgW c add w r with
 | none=>rfl
 | some M=>
  obtain ⟨m,t,rfl,e2,e3⟩:=z1h h r w M hw u e;have h1:=(h.anti x w hx hw).1 hxw;have h2:=(e3 x hx).1;rw [Option.map_some,Option.bind_some,zdr,if_neg (by omega),if_neg (by omega)]
theorem zXx {x:ρ} (hx:V x):∀ (r:List ρ) (w:ρ),V w->(∀ y∈r,V y)->(w::r).Pairwise (λa b=>c a b<=0)->c w x<=0->zgW c add w (zyR c x r)=(zgW c add w r).bind λM=>zdr c add M x
 | [],w,hw,_,_,hle=>by
  rw [zyR,zgW,zgW,zgW,Option.bind_some,zdr,zdr];by_cases e:c w x=0
  ·rw [if_pos e,if_neg (by omega),if_pos e]; cases add w x <;>rfl
  ·rw [if_neg e,if_pos (by omega)]
 | y::r,w,hw,u,p,hle=>by
  have hy:V y:=u y (by simp)
  have ur:∀ y∈r,V y:=λy hy=>u y (by simp [hy])
  have p':=qi.1 p;have hwy:c w y<=0:=p'.1 y (by simp)
  have pr:=qi.1 p'.2;have ax:=h.anti x y hx hy;have ay:=h.anti y x hy hx;rw [zyR];by_cases hlt:c x y<0
  ·rw [if_pos hlt];have hwy':c w y<0:=h.lt2 hw hx hy hle hlt;rw [zgW];by_cases e:c w x=0
   ·rw [if_pos e];rw [show zgW c add w (y::r)=(zgW c add y r).map (w::·) by rw [zgW,if_neg (by omega)]]
    cases ea:add w x with
    | none=>
     rw [Option.bind_none];cases zgW c add y r with
     | none=>rfl
     | some M=>rw [Option.map_some,Option.bind_some,zdr,if_neg (by omega),if_pos e,ea]; rfl
    | some z=>
     obtain ⟨k1,k2⟩:=h.key w x z hw hx ea;rw [Option.bind_some,zgW,if_neg (by rw [(k2 y hy).1]; omega)]
     cases zgW c add y r with
     | none=>rfl
     | some M=>rw [Option.map_some,Option.map_some,Option.bind_some,zdr,if_neg (by omega),if_pos e,ea]; rfl
   ·rw [if_neg e];rw [show zgW c add w (y::r)=(zgW c add y r).map (w::·) by rw [zgW,if_neg (by omega)]]
    rw [zgW,if_neg (by omega),z1p h hy hx ur hlt]
    cases zgW c add y r with
    | none=>rfl
    | some M=>rw [Option.map_some,Option.bind_some,Option.bind_some,zdr,if_pos (by omega)]
  ·rw [if_neg hlt,zgW,zgW];by_cases e:c w y=0
   ·rw [if_pos e,if_pos e];cases ea:add w y with
    | none=>rfl
    | some z=>
     obtain ⟨k1,k2⟩:=h.key w y z hw hy ea;rw [Option.bind_some,Option.bind_some];exact zXx hx r z k1 ur (qi.2 ⟨λb hb=>by rw [(k2 b (ur b hb)).1]; exact p'.1 b (by simp [hb]),pr.2⟩) (by rw [(k2 x hx).1]; exact hle)
   ·rw [if_neg e,if_neg e,zXx hx r y hy ur p'.2 (by omega)]
    have hwx:c w x<0:=h.lt1 hw hy hx (by omega) (by omega)
    cases zgW c add y r with
    | none=>rfl
    | some M=>rw [Option.map_some,Option.bind_some,Option.bind_some,zdr,if_pos hwx]
theorem zba4 {x:ρ} (hx:V x):∀ (r:List ρ),(∀ y∈r,V y)->r.Pairwise (λa b=>c a b<=0)->mrg c add (zyR c x r)=(mrg c add r).bind λM=>zdr c add M x
 | [],_,_=>rfl
 | y::r,u,p=>by
  have hy:V y:=u y (by simp)
  have ur:∀ y∈r,V y:=λy hy=>u y (by simp [hy])
  rw [zyR];by_cases hlt:c x y<0
  ·rw [if_pos hlt];show zgW c add x (y::r)=(zgW c add y r).bind _;rw [zgW,if_neg (by omega),z1p h hy hx ur hlt]
  ·rw [if_neg hlt];have ax:=h.anti x y hx hy;have ay:=h.anti y x hy hx;exact zXx h hx r y hy ur p (by omega)
theorem zXi {x y:ρ}:∀ {r:List ρ},y∈zyR c x r->y=x\/y∈r
 | [],k=>by rw [zyR] at k; simp_all
 | z::r,k=>by
  rw [zyR] at k;split at k
  ·exact qd.1 k
  ·rcases qd.1 k with rfl | k
   ·exact .inr (by simp)
   ·exact (zXi k).imp id λk=>by simp [k]
theorem z3H {x:ρ} (hx:V x):∀ (r:List ρ),(∀ y∈r,V y)->r.Pairwise (λa b=>c a b<=0)->(zyR c x r).Pairwise λa b=>c a b<=0
 | [],_,_=>by simp [zyR]
 | y::r,u,p=>by
  have hy:V y:=u y (by simp)
  have p':=qi.1 p;rw [zyR];split
  ·rename_i hlt;refine qi.2 ⟨λz hz=> ?_,p⟩
   rcases qd.1 hz with rfl | hz
   ·omega
   ·exact h.trans x y z hx hy (u z (by simp [hz])) (by omega) (p'.1 z hz)
  ·rename_i hlt;have ax:=h.anti x y hx hy;have ay:=h.anti y x hy hx;refine qi.2 ⟨λz hz=> ?_,z3H hx r (λy hy=>u y (by simp [hy])) p'.2⟩
   rcases zXi h hz with rfl | hz
   ·omega
   ·exact p'.1 z hz
theorem z3o:∀ (l s:List ρ),(∀ y∈s++l,V y)->s.Pairwise (λa b=>c a b<=0)->mrg c add (l.foldl (λs x=>zyR c x s) s)=l.foldl (λo x=>o.bind λM=>zdr c add M x) (mrg c add s)
 | [],s,_,_=>rfl
 | x::l,s,u,p=>by
  have hx:V x:=u x (by simp)
  have us:∀ y∈s,V y:=λy hy=>u y (by simp [hy])
  rw [List.foldl_cons,List.foldl_cons, <- zba4 h hx s us p];refine z3o l (zyR c x s) (λy hy=> ?_) (z3H h hx s us p)
  rcases List.mem_append.1 hy with hy | hy
  ·rcases zXi h hy with rfl | hy
   ·exact hx
   ·exact us y hy
  ·exact u y (by simp [hy])
end
def zPN {ρ:Type} (c:ρ->ρ->Int) (add:ρ->ρ->Option ρ):Option (List ρ)->ρ->Option (List ρ)
 | none,_=>none
 | some o,x=>match o.getLast? with
  | none=>some [x]
  | some w=>if c w x=0 then (add w x).map λz=>o.dropLast++[z] else some (o++[x])
theorem zTc {ρ:Type} (c:ρ->ρ->Int) (add:ρ->ρ->Option ρ):∀ l:List ρ,l.foldl (zPN c add) none=none
 | []=>rfl
 | x::l=>zTc c add l
theorem zUU {ρ:Type} (c:ρ->ρ->Int) (add:ρ->ρ->Option ρ):∀ (l o:List ρ) (w:ρ),l.foldl (zPN c add) (some (o++[w]))=(zgW c add w l).map (o++·)
 | [],o,w=>rfl
 | x::l,o,w=>by
  rw [List.foldl_cons,zgW];unfold zPN;simp only [List.getLast?_append,List.getLast?_singleton,Option.some_or,List.dropLast_concat];by_cases e:c w x=0
  ·rw [if_pos e,if_pos e];cases add w x with
   | none=>exact zTc c add l
   | some z=>exact zUU c add l o z
  ·rw [if_neg e,if_neg e];have:=zUU c add l (o++[w]) x;unfold zPN at this;rw [this];cases zgW c add x l <;>simp
theorem zbbv {ρ:Type} (c:ρ->ρ->Int) (add:ρ->ρ->Option ρ):∀ l:List ρ,l.foldl (zPN c add) (some [])=mrg c add l
 | []=>rfl
 | x::l=>by
  have:=zUU c add l [] x;simp only [List.nil_append] at this;show l.foldl (zPN c add) (some [x])=zgW c add x l;rw [this]; cases zgW c add x l <;>rfl
end Go.Proofs.YtoknknbmfmddbaaGreatDoor
/- Relations: values and rows compared, columns, fitting rows: the program and the reference. -/
set_option maxRecDepth 100000
namespace Go.Proofs.YtoknknbmfmddbaaGreatDoor
open Go Go.Ab
theorem zZd (l:yG) (m:Int) (hl:l.length<=zW):∀ (n i:Nat),l.length<i+n->i<=l.length->∃ r,zEr n l m i=(true,r)/\(r=.inl false\/(r=.inr (l,m)/\∀ x∈l.drop i,x.Text.size<=300))
 | 0,i,h,h2=>by omega
 | n+1,i,h,h2=>by
  show ∃ r,(zEB l m i).ev (λx y=>zEr n x.1 x.2.1 x.2.2.1) (λr=>(true,r)) (false,.inl default)=(true,r)/\_
  unfold zEB;by_cases hi:i<l.length
  ·have hw:i<4611686018427387904:=by
    have:zW<4611686018427387904:=by decide
    omega
   have hs:decide (((l.getD i default).Text.size:Int)>(300:Int))=decide ((l.getD i default).Text.size>300):=zly _ 300;simp only [Wy.ev_i,Wy.ev_k,Wy.ev_h,Wy.ev_bn,Wy.ev_d,tT,hi];rw [hs];by_cases h3:(l.getD i default).Text.size>300
   ·rw [decide_eq_true h3];exact ⟨_,rfl,.inl rfl⟩
   ·rw [decide_eq_false h3,cond_false,zB hw];obtain ⟨r,h4,h5⟩:=zZd l m hl n (i+1) (by omega) (by omega)
    refine ⟨r,h4, ?_⟩;rcases h5 with h5 | ⟨h5,h6⟩
    ·exact .inl h5
    ·refine .inr ⟨h5,λx hx=> ?_⟩
     rw [zbl hi] at hx;rcases qd.1 hx with rfl | hx
     ·omega
     ·exact h6 x hx
  ·simp only [Wy.ev_i,Wy.ev_k,Wy.ev_h,Wy.ev_bn,Wy.ev_d,tT,hi];exact ⟨_,rfl,.inr ⟨rfl,λx hx=>by rw [zdc hi] at hx; cases hx⟩⟩
theorem z9c (l:yG) (m:Nat) (hl:l.length<=zW):∃ b,zw7 l m=(true,b)/\(b=true->l.length<=m/\∀ x∈l,x.Text.size<=300):=by
 unfold zw7 zRs;obtain ⟨r,h1,h2⟩:=zZd l m hl (l.length+(m:Int).toNat +Int.toNat (0:Int)+(1:Nat)) 0 (by omega) (by omega)
 rw [show ((0:Nat):Int)=(0:Int) from rfl] at h1
 rw [Wy.fin_bn,h1];rcases h2 with rfl | ⟨rfl,h2⟩
 ·exact ⟨false,rfl,λh=>by cases h⟩
 ·refine ⟨decide (l.length<=m), ?_,λh=>⟨of_decide_eq_true h,h2⟩⟩
  show (true,decide (Int.ofNat l.length<=(m:Int)))=_;rw [show decide (Int.ofNat l.length<=(m:Int))=decide (l.length<=m) from zuS _ _]
def zWN (c:Column):Bool:=decide (0<=c.Type_)&&decide (c.Type_<=2)
def zPn (l:yH):Bool:=decide (l.length<=16)&&l.all zWN
def zVd (k:Int) (b:Value):Bool:=zsB b&&decide (b.Kind=k)
def zuD (l:yH) (row:yG):Bool:=decide (l.length=row.length)&&zeb (λi=>zVd (l.getD i default).Type_ (row.getD i default)) l.length 0
theorem zJO (a b:Nat):decide (Int.ofNat a=Int.ofNat b)=decide (a=b):=by
 by_cases h:a=b
 ·rw [h]; simp
 ·rw [decide_eq_false h,decide_eq_false]; intro e; exact h (Int.ofNat.inj e)
theorem zbdV:zbX ⟨default,0⟩=(true,false):=by kernel_rfl
theorem zbdz:zbX ⟨default,1⟩=(true,false):=by kernel_rfl
theorem zbdr:zbX ⟨default,2⟩=(true,false):=by kernel_rfl
theorem zbdY (c:Column):zbX c=(true, !zWN c):=by
 have hc:zbX c=zbX ⟨default,c.Type_⟩:=rfl;rw [hc];unfold zWN;generalize c.Type_=t;by_cases h0:t<0
 ·unfold zbX zoB zqL zBA;rw [Wy.fin_bn,Wy.fin_i,decide_eq_true h0,decide_eq_false (show ¬ 0<=t by omega)]
  show (true,((ByteArray.mk #[]).toList==(ByteArray.mk #[]).toList))=_;rw [zCl]; rfl
 ·by_cases h2:t>2
  ·unfold zbX zoB zqL zBA;rw [Wy.fin_bn,Wy.fin_i,Wy.fin_i,decide_eq_false h0,decide_eq_true h2,decide_eq_false (show ¬ t<=2 by omega),Bool.and_false]
   show (true,((ByteArray.mk #[]).toList==(ByteArray.mk #[]).toList))=_;rw [zCl]; rfl
  ·rw [decide_eq_true (show 0<=t by omega),decide_eq_true (show t<=2 by omega)]
   have:t=0\/t=1\/t=2:=by omega
   rcases this with rfl | rfl | rfl
   ·exact zbdV
   ·exact zbdz
   ·exact zbdr
theorem zLF (l:yH) (hl:l.length<=1000000):zh1 l=(true,zPn l):=by
 have hc:zcs l=(true, !l.all zWN):=by
  unfold zcs zi1;have:zd5 l=IG (λ(_:Unit) x=>zbX x) (l.length+(Int.ofNat l.length).toNat +Int.toNat (0:Int)+(1000:Nat)) () l:=rfl
  have e:(!l.all zWN)=l.any λc=> !zWN c:=by simp [List.all_eq_not_any_not]
  rw [e];exact zla (this.trans (zIj _ _ _ _ _ (by omega) (λx _=>zbdY x) (by omega)))
 unfold zh1 zz5 zPn;have el:decide (Int.ofNat l.length<=(16:Int))=decide (l.length<=16):=zuS _ 16;rw [Wy.fin_i,Wy.fin_bn,hc,el];cases decide (l.length<=16) <;>cases l.all zWN <;>rfl
def zBg (l:yH) (row:yG) (k:Nat):List pair:=(List.range k).map λi=>pair.mk (l.getD i default) (row.getD i default)
theorem z1z (l:yH) (row:yG) (k:Nat):zBg l row (k+1)=zBg l row k++[pair.mk (l.getD k default) (row.getD k default)]:=by
 unfold zBg; rw [List.range_succ,List.map_append]; rfl
theorem zWn (l:yH) (row:yG) (k:Nat):(zBg l row k).length=k:=by simp [zBg]
theorem z29 (l:yH) (row:yG) (he:l.length=row.length) (hl:l.length<=1000000):∀ (n i:Nat),row.length<i+n->i<=row.length->zCM n l row row.length i (zBg l row i)=(true,zBg l row row.length)
 | 0,i,h,h2=>by omega
 | n+1,i,h,h2=>by
  show (zDC l row row.length i (zBg l row i)).ev (zA zDd default n) (λr=>(true,r)) (false,default)=_
  unfold zDC;by_cases hi:i<row.length
  ·have hi':i<l.length:=by omega
   simp only [Wy.ev_i,Wy.ev_k,Wy.ev_h,Wy.ev_bn,Wy.ev_d,tT,hi,hi'];rw [decide_eq_true (show ((zBg l row i).length+[pair.mk (l.getD i default) (row.getD i default)].length)*56<=zG from zEn (by rw [zWn]; simp; omega) (by omega)),cond_true,zB (by omega), <- z1z]
   exact z29 l row he hl n (i+1) (by omega) (by omega)
  ·have:i=row.length:=by omega
   subst this;simp only [Wy.ev_i,Wy.ev_k,Wy.ev_h,Wy.ev_bn,Wy.ev_d,tT,Nat.lt_irrefl]
theorem z4B (l:yH) (row:yG) (p:pair->Bool):∀ k,(zBg l row k).all p=zeb (λi=>p (pair.mk (l.getD i default) (row.getD i default))) k 0
 | 0=>rfl
 | k+1=>by
  rw [z1z,List.all_append,z4B l row p k,zTI,Nat.zero_add];simp
theorem z0x (l:yH) (row:yG) (hl:l.length<=1000000):zsP l row=(true,zuD l row):=by
 unfold zsP zLK zuD;rw [Wy.fin_i,zhD,zJO];by_cases he:l.length=row.length
 ·have hz:zyU l row=(true,zBg l row row.length):=by
   unfold zyU zOM;have key:∀ n,row.length<n->zCM n l row (Int.ofNat row.length) 0 []=(true,zBg l row row.length):=λn hn=>z29 l row he hl n 0 (by omega) (by omega)
   rw [Wy.fin_bn,key _ (by omega)]; rfl
  have hc:zb0 (zBg l row row.length)=(true, !(zBg l row row.length).all λp=>zVd p.c.Type_ p.v):=by
   generalize hq:zBg l row row.length=q;have hql:q.length<=1000000:=by rw [<- hq,zWn]; omega
   unfold zb0 zgI;have:zc1 q=IG (λ(_:Unit) x=>zmA x) (q.length+(Int.ofNat q.length).toNat +Int.toNat (0:Int)+(1000:Nat)) () q:=rfl
   have e:(!q.all λp=>zVd p.c.Type_ p.v)=q.any λp=> !zVd p.c.Type_ p.v:=by simp [List.all_eq_not_any_not]
   rw [e]
   exact zla (this.trans (zIj _ _ _ _ _ (by omega) (λx _=>by
    show zmA x=_;unfold zmA zFD zVd;simp only [Wy.fin_i,Wy.fin_k,Wy.fin_bn,zzA,cond_true,zsD];cases zsB x.v <;>cases decide (x.v.Kind=x.c.Type_) <;>rfl) (by omega)))
  rw [decide_eq_true he,cond_true,Wy.fin_bn,hz,cond_true,Wy.fin_bn,hc,z4B,he];cases zeb (λi=>zVd (l.getD i default).Type_ (row.getD i default)) row.length 0 <;>rfl
 ·rw [decide_eq_false he]; rfl
def zTS (l:yG):List TT:=l.map trV
theorem z4w:∀ {a b:yG},zTS a=zTS b->a=b
 | [],[],_=>rfl
 | [],_::_,h=>by cases h
 | _::_,[],h=>by cases h
 | x::a,y::b,h=>by
  have h':trV x::zTS a=trV y::zTS b:=h;injection h' with h1 h2
  rw [zZw h1,z4w h2]
def zxN (a b:yG):Int:=z8 (.l (zTS a)) (.l (zTS b))
theorem z9j (a b:yG):zxN a b=zbA (zTS a) (zTS b):=by unfold zxN; rw [z8]
theorem zm5 (a b:yG):zxN b a= - zxN a b:=zgm _ _
theorem zQn (a b:yG):zxN a b=0↔a=b:=⟨λh=>z4w (TT.l.inj (zsQ _ _ h)),λh=>by subst h; exact zBN _⟩
theorem zM1 {x y z:yG} (h1:zxN x y<=0) (h2:zxN y z<=0):zxN x z<=0:=ztB _ _ _ h1 h2
theorem zQN (a b:yG) (ha:a.length<=1000000):zpr a b=(true,zxN a b):=by
 unfold zpr zD9;have e:zb5=CF zki:=rfl;rw [e,Wy.fin_bn,zO0 trV zki a b ha (λx _ y _=>zBy x y),z9j]; rfl
theorem zeO (x y:Row) (hx:x.Values.length<=1000000):zbV x y=(true,zxN x.Values y.Values):=by
 unfold zbV zF4;rw [Wy.fin_bn,zQN _ _ hx]; rfl
end Go.Proofs.YtoknknbmfmddbaaGreatDoor
namespace Go.Proofs.YtoknknbmfmddbaaGreatDoor
open Go Go.Ab
abbrev zO6:=yB×Int×Unit×Int×Unit
abbrev z0z:=Bool⊕(yB×Int)
abbrev zNU:=yB×Int×Unit
def zpg (zbZ:At->Bool×Bool) (a:yB) (i:Int) (k:Int) (t:Term):Wy zO6 (Term×Unit) z0z:=.i (decide (k<Int.ofNat t.Fs.length)) (.i (decide (0<=k)&&decide (k<Int.ofNat t.Fs.length)) (.i (decide ((t.Fs.getD k.toNat default).Exp<1)) (.k (.inl false)) (.i (decide ((t.Fs.getD k.toNat default).Exp>1)) (.i (decide ((t.Fs.getD k.toNat default).At.Kind≥3)) (.k (.inl false)) (.bn (zbZ (At.mk (t.Fs.getD k.toNat default).At.Kind (t.Fs.getD k.toNat default).At.Row (t.Fs.getD k.toNat default).At.Ag (t.Fs.getD k.toNat default).At.Func (t.Fs.getD k.toNat default).At.Items (t.Fs.getD k.toNat default).At.Op (t.Fs.getD k.toNat default).At.Bd)) λr1=>.i (!r1) (.k (.inl false)) (.i (decide (k>0)) (.i (decide (0<=IntKind.i64.wrap (k - 1))&&decide (IntKind.i64.wrap (k - 1)<Int.ofNat t.Fs.length)) (.bn (zo6 (At.mk (t.Fs.getD (IntKind.i64.wrap (k - 1)).toNat default).At.Kind (t.Fs.getD (IntKind.i64.wrap (k - 1)).toNat default).At.Row (t.Fs.getD (IntKind.i64.wrap (k - 1)).toNat default).At.Ag (t.Fs.getD (IntKind.i64.wrap (k - 1)).toNat default).At.Func (t.Fs.getD (IntKind.i64.wrap (k - 1)).toNat default).At.Items (t.Fs.getD (IntKind.i64.wrap (k - 1)).toNat default).At.Op (t.Fs.getD (IntKind.i64.wrap (k - 1)).toNat default).At.Bd) (At.mk (t.Fs.getD k.toNat default).At.Kind (t.Fs.getD k.toNat default).At.Row (t.Fs.getD k.toNat default).At.Ag (t.Fs.getD k.toNat default).At.Func (t.Fs.getD k.toNat default).At.Items (t.Fs.getD k.toNat default).At.Op (t.Fs.getD k.toNat default).At.Bd)) λr0=>.i (decide (r0≥0)) (.k (.inl false)) (.h (a,i,(),(IntKind.i64.wrap (k+1)),()) (t,()))) .d) (.h (a,i,(),(IntKind.i64.wrap (k+1)),()) (t,()))))) (.bn (zbZ (At.mk (t.Fs.getD k.toNat default).At.Kind (t.Fs.getD k.toNat default).At.Row (t.Fs.getD k.toNat default).At.Ag (t.Fs.getD k.toNat default).At.Func (t.Fs.getD k.toNat default).At.Items (t.Fs.getD k.toNat default).At.Op (t.Fs.getD k.toNat default).At.Bd)) λr3=>.i (!r3) (.k (.inl false)) (.i (decide (k>0)) (.i (decide (0<=IntKind.i64.wrap (k - 1))&&decide (IntKind.i64.wrap (k - 1)<Int.ofNat t.Fs.length)) (.bn (zo6 (At.mk (t.Fs.getD (IntKind.i64.wrap (k - 1)).toNat default).At.Kind (t.Fs.getD (IntKind.i64.wrap (k - 1)).toNat default).At.Row (t.Fs.getD (IntKind.i64.wrap (k - 1)).toNat default).At.Ag (t.Fs.getD (IntKind.i64.wrap (k - 1)).toNat default).At.Func (t.Fs.getD (IntKind.i64.wrap (k - 1)).toNat default).At.Items (t.Fs.getD (IntKind.i64.wrap (k - 1)).toNat default).At.Op (t.Fs.getD (IntKind.i64.wrap (k - 1)).toNat default).At.Bd) (At.mk (t.Fs.getD k.toNat default).At.Kind (t.Fs.getD k.toNat default).At.Row (t.Fs.getD k.toNat default).At.Ag (t.Fs.getD k.toNat default).At.Func (t.Fs.getD k.toNat default).At.Items (t.Fs.getD k.toNat default).At.Op (t.Fs.getD k.toNat default).At.Bd)) λr2=>.i (decide (r2≥0)) (.k (.inl false)) (.h (a,i,(),(IntKind.i64.wrap (k+1)),()) (t,()))) .d) (.h (a,i,(),(IntKind.i64.wrap (k+1)),()) (t,())))))) .d) (.k (.inr (a,i)))
def zHL (zbZ:At->Bool×Bool) (x:zO6) (y:Term×Unit):=zpg zbZ x.1 x.2.1 x.2.2.2.1 y.1
def zAw (zbZ:At->Bool×Bool) (n:Nat) (a:yB) (i:Int) (k:Int) (t:Term):=zA (zHL zbZ) (.inl default) n (a,i,(),k,()) (t,())
def zrj (zbZ:At->Bool×Bool) (a:yB) (i:Int):Wy zNU Unit (Bool⊕Unit):=.i (decide (i<Int.ofNat a.length)) (.i (decide (0<=i)&&decide (i<Int.ofNat a.length)) (.i (decide ((a.getD i.toNat default).Cf<1)) (.k (.inl false)) (.i (decide ((a.getD i.toNat default).Cf>1152921504606846976)) (.k (.inl false)) (.i (decide (i>0)) (.i (decide (0<=IntKind.i64.wrap (i - 1))&&decide (IntKind.i64.wrap (i - 1)<Int.ofNat a.length)) (.bn (zpF (a.getD (IntKind.i64.wrap (i - 1)).toNat default).Fs (a.getD i.toNat default).Fs) λr9=>.i (decide (r9≥0)) (.k (.inl false)) (.bn (zAw zbZ ((a.length+i.toNat +Int.toNat 0+(a.getD i.toNat default).Fs.length+1)+zgV a) a i 0 (a.getD i.toNat default)) λr8=>.i (isL r8) (.k (.inl (getL r8))) (.h ((getR r8).1,(IntKind.i64.wrap ((getR r8).2+1)),()) ()))) .d) (.bn (zAw zbZ ((a.length+i.toNat +Int.toNat 0+(a.getD i.toNat default).Fs.length+1)+zgV a) a i 0 (a.getD i.toNat default)) λr10=>.i (isL r10) (.k (.inl (getL r10))) (.h ((getR r10).1,(IntKind.i64.wrap ((getR r10).2+1)),()) ()))))) .d) (.k (.inr ()))
def zJX (zbZ:At->Bool×Bool) (x:zNU) (y:Unit):=zrj zbZ x.1 x.2.1
def zI2 (zbZ:At->Bool×Bool) (n:Nat) (a:yB) (i:Int):=zA (zJX zbZ) (.inl default) n (a,i,()) ()
def zLP (zbZ:At->Bool×Bool) (a:yB):Wy0 (Bool):=.bn (zHZ a) λr15=>.i (!r15) (.k false) (.bn (zI2 zbZ ((a.length+Int.toNat 0+1)+zgV a) a 0) λr14=>.i (isL r14) (.k (getL r14)) (.k true))
def zA5 (zbZ:At->Bool×Bool) (a:yB):=(zLP zbZ a).fin default
abbrev zsV:=Unit×Int×Unit
def zlr (zdG:yB->Bool×Bool) (i:Int) (x_:At):Wy zsV (At×Unit) (Bool⊕At):=.i (decide (i<Int.ofNat x_.Ag.length)) (.i (decide (0<=i)&&decide (i<Int.ofNat x_.Ag.length)) (.i (Int.ofNat (List.length (x_.Ag.getD i.toNat default))==0) (.k (.inl false)) (.i (decide (0<=i)&&decide (i<Int.ofNat x_.Ag.length)) (.bn (zdG (x_.Ag.getD i.toNat default)) λr0=>.i (!r0) (.k (.inl false)) (.h ((),(IntKind.i64.wrap (i+1)),()) (x_,()))) .d)) .d) (.k (.inr x_))
def zCC (zdG:yB->Bool×Bool) (x:zsV) (y:At×Unit):=zlr zdG x.2.1 y.1
def zvU (zdG:yB->Bool×Bool) (n:Nat) (i:Int) (x_:At):=zA (zCC zdG) (.inl default) n ((),i,()) (x_,())
def zkE (zdG:yB->Bool×Bool) (i:Int) (x_:At):Wy zsV (At×Unit) (Bool⊕Unit):=.i (decide (i<Int.ofNat x_.Items.length)) (.i (decide (0<=i)&&decide (i<Int.ofNat x_.Items.length)) (.i (Int.ofNat (x_.Items.getD i.toNat default).Ann.length==0) (.k (.inl false)) (.i (decide (0<=i)&&decide (i<Int.ofNat x_.Items.length)) (.bn (zdG (x_.Items.getD i.toNat default).Ann) λr3=>.i (!r3) (.k (.inl false)) (.i (decide (i>0)) (.i (decide (0<=IntKind.i64.wrap (i - 1))&&decide (IntKind.i64.wrap (i - 1)<=i)&&decide (i<=Int.ofNat x_.Items.length)) (.i (decide (0<=i)&&decide (i<=IntKind.i64.wrap (i+1))&&decide (IntKind.i64.wrap (i+1)<=Int.ofNat x_.Items.length)) (.bn (zyD (List.take (i.toNat - (IntKind.i64.wrap (i - 1)).toNat) (List.drop (IntKind.i64.wrap (i - 1)).toNat x_.Items)) (List.take ((IntKind.i64.wrap (i+1)).toNat - i.toNat) (List.drop i.toNat x_.Items))) λr2=>.i (decide (r2>0)) (.k (.inl false)) (.h ((),(IntKind.i64.wrap (i+1)),()) (x_,()))) .d) .d) (.h ((),(IntKind.i64.wrap (i+1)),()) (x_,())))) .d)) .d) (.k (.inr ()))
def zCb (zdG:yB->Bool×Bool) (x:zsV) (y:At×Unit):=zkE zdG x.2.1 y.1
def zBL (zdG:yB->Bool×Bool) (n:Nat) (i:Int) (x_:At):=zA (zCb zdG) (.inl default) n ((),i,()) (x_,())
def zD8 (zdG:yB->Bool×Bool) (x_:At):Wy0 (Bool):=.i (x_.Kind==0) (.i (decide (x_.Row.Table≥1)) (.i (decide (x_.Row.Seq≥1)) (.i (Int.ofNat x_.Ag.length==0) (.bn (zxa (At.mk x_.Kind x_.Row x_.Ag x_.Func x_.Items x_.Op x_.Bd)) λr6=>.k r6) (.k false)) (.k false)) (.k false)) (.i (!(x_.Row.Table==0&&(x_.Row.Seq==0&&true))) (.k false) (.bn (zvU zdG (Int.toNat 0+x_.Ag.length+x_.Items.length+1) 0 (At.mk x_.Kind x_.Row x_.Ag x_.Func x_.Items x_.Op x_.Bd)) λr17=>.i (isL r17) (.k (getL r17)) (.i ((getR r17).Kind==1) (.i (Int.ofNat (getR r17).Ag.length==2) (.bn (zxa (At.mk (getR r17).Kind (getR r17).Row (getR r17).Ag (getR r17).Func (getR r17).Items (getR r17).Op (getR r17).Bd)) λr8=>.i (r8) (.i (decide ((0:Int)<=(0:Int))&&decide (0<Int.ofNat (getR r17).Ag.length)) (.i (decide ((0:Int)<=(1:Int))&&decide (1<Int.ofNat (getR r17).Ag.length)) (.bn (zDG ((getR r17).Ag.getD (Int.toNat 0) default) ((getR r17).Ag.getD (Int.toNat 1) default)) λr7=>.k (!r7)) .d) .d) (.k false)) (.k false)) (.i ((getR r17).Kind==2) (.i (Int.ofNat (getR r17).Ag.length==1) (.bn (zxa (At.mk (getR r17).Kind (getR r17).Row (getR r17).Ag (getR r17).Func (getR r17).Items (getR r17).Op (getR r17).Bd)) λr12=>.i (r12) (.i (decide ((0:Int)<=(0:Int))&&decide (0<Int.ofNat (getR r17).Ag.length)) (.i (Int.ofNat (List.length ((getR r17).Ag.getD (Int.toNat 0) default))==1) (.i (decide ((0:Int)<=(0:Int))&&decide (0<Int.ofNat (getR r17).Ag.length)) (.bn (zmB ((getR r17).Ag.getD (Int.toNat 0) default)) λr10=>.i (!r10) (.i (decide ((0:Int)<=(0:Int))&&decide (0<Int.ofNat (getR r17).Ag.length)) (.bn (zyo ((getR r17).Ag.getD (Int.toNat 0) default)) λr9=>.k (!r9)) .d) (.k false)) .d) (.i (decide ((0:Int)<=(0:Int))&&decide (0<Int.ofNat (getR r17).Ag.length)) (.bn (zyo ((getR r17).Ag.getD (Int.toNat 0) default)) λr11=>.k (!r11)) .d)) .d) (.k false)) (.k false)) (.i ((getR r17).Kind==3) (.i (Int.ofNat (getR r17).Ag.length==1) (.bn (zxa (At.mk (getR r17).Kind (getR r17).Row (getR r17).Ag (getR r17).Func (getR r17).Items (getR r17).Op (getR r17).Bd)) λr14=>.i (r14) (.i (decide ((0:Int)<=(0:Int))&&decide (0<Int.ofNat (getR r17).Ag.length)) (.bn (zmB ((getR r17).Ag.getD (Int.toNat 0) default)) λr13=>.k (!r13)) .d) (.k false)) (.k false)) (.i ((getR r17).Kind==4) (.i (Int.ofNat (getR r17).Ag.length != 0) (.k false) (.i (Int.ofNat (getR r17).Items.length==0) (.k false) (.i (decide (Int.ofNat (getR r17).Items.length>1024)) (.k false) (.bn (zFa (getR r17).Func (getR r17).Items (getR r17).Op (getR r17).Bd) λr16=>.i (!r16) (.k false) (.bn (zBL zdG (Int.toNat 0+(getR r17).Ag.length+(getR r17).Items.length+1) 0 (At.mk (getR r17).Kind (getR r17).Row (getR r17).Ag (getR r17).Func (getR r17).Items (getR r17).Op (getR r17).Bd)) λr15=>.i (isL r15) (.k (getL r15)) (.k true)))))) (.k false)))))))
def zui (zdG:yB->Bool×Bool) (x_:At):=(zD8 zdG x_).fin default
def zIb:Nat->(yB->Bool×Bool)×(At->Bool×Bool)
 | 0=>(λ_=>(false,default),λ_=>(false,default))
 | n+1=>(zA5 ((zIb n).2),zui ((zIb n).1))
def zA6 (n:Nat):yB->Bool×Bool:=(zIb n).1
def zAu (n:Nat):At->Bool×Bool:=(zIb n).2
theorem zXI (n:Nat):zA6 (n+1)=zA5 (zAu n):=rfl
theorem zPL (n:Nat):zAu (n+1)=zui (zA6 n):=rfl
def zkd:yB->Bool×Bool:=zA6 1000
def rz (r:RowID):Bool:=r.Table==(0:Int)&&(r.Seq==(0:Int)&&true)
def zra (V:yB->Bool) (l:yA):Bool:=l.all λa=>V a&& !(a.length==0)
def zCj (V:yB->Bool) (l:yD):Bool:=l.all λw=>V w.Ann&& !(w.Ann.length==0)
def zzu (r:RowID):Bool:=decide (r.Table≥1)&&decide (r.Seq≥1)
def zE7 (p:yB->Bool):yA->Bool
 | [a]=>p a
 | _=>false
def zYA (p:yB->yB->Bool):yA->Bool
 | [a,b]=>p a b
 | _=>false
def zef (V:yB->Bool) (x:At):Bool:=
 zra V x.Ag&&
 if x.Kind=0 then plA x&&zzu x.Row&&(x.Ag.length==0)
 else rz x.Row&&
  if x.Kind=1 then plA x&&zYA (λa b=> !decide (a=b)) x.Ag
  else if x.Kind=2 then plA x&&zE7 (λa=> !isC a&& !isU a) x.Ag
  else if x.Kind=3 then plA x&&zE7 (λa=> !zxC a) x.Ag
  else if x.Kind=4 then (x.Ag.length==0)&&decide (0<x.Items.length)&&zCj V x.Items&&zUx x.Items&&zAj x.Func x.Items x.Op x.Bd
  else false
def zNq (vat:At->Bool) (fs:yC) (k:Nat):Bool:=
 decide (1<=(fs.getD k default).Exp)&& !(((fs.getD k default).At.Kind==3||(fs.getD k default).At.Kind==4)&&(fs.getD k default).Exp != 1)&&
  (decide (k=0)||decide (z8 (zd4 (fs.getD (k - 1) default).At) (zd4 (fs.getD k default).At)<0))&&vat (fs.getD k default).At
def okF (vat:At->Bool) (fs:yC):Bool:=zeb (zNq vat fs) fs.length 0
def zCE (vat:At->Bool) (a:yB) (i:Nat):Bool:=
 decide (1<=(a.getD i default).Cf)&&decide ((a.getD i default).Cf<=1152921504606846976)&&
  (decide (i=0)||decide (zbA (zbo (a.getD (i - 1) default).Fs) (zbo (a.getD i default).Fs)<0))&&okF vat (a.getD i default).Fs
def zxp (vat:At->Bool) (a:yB):Bool:=zfx a&&zeb (zCE vat a) a.length 0
def zbr:Nat->yB->Bool
 | 0,_=>false
 | n+1,a=>zxp (zef (zbr n)) a
theorem zCT (r:RowID):zro r=(true,zzu r):=by
 unfold zro zN2 zzu;rw [Wy.fin_i,Wy.fin_k,Wy.fin_k];cases decide (r.Table≥1) <;>rfl
theorem zDs {V:yB->Bool} {x:At} (h:zef V x=true):0<=x.Kind/\x.Kind<=4:=by
 unfold zef at h;by_cases h0:x.Kind=0
 ·omega
 by_cases h1:x.Kind=1
 ·omega
 by_cases h2:x.Kind=2
 ·omega
 by_cases h3:x.Kind=3
 ·omega
 by_cases h4:x.Kind=4
 ·omega
 simp [h0,h1,h2,h3,h4] at h
theorem ztf (l k:Nat):((Int.ofNat l)==(k:Int))=(l==k):=by
 rw [zhD,zW2]; congr 1; simp; omega
section
variable (V:yB->Bool) (gW:yD->Bool×Bool) (gA:yA->Bool×Bool) (c1:yB->Bool×Bool) (c2:Wd->Bool×Bool)
theorem zZI (x:At) {d:Nat} (hx:zdb (zo d) x) (hd:d<=99) (hA:gA x.Ag=(true, !zra V x.Ag)) (hW:gW x.Items=(true, !zCj V x.Items)):
  zj4 gA c1 gW c2 x=(true,zef V x):=by
 have hS:=z4R x.Items hx.1.2.1 (λw hw=>(hx.2.2 w hw).2) hd
 have hF:=zX6 x.Func x.Items x.Op x.Bd hx.1.2.1;have hE:∀ a∈x.Ag,∀ b,zgB a b=(true,decide (a=b)):=λa ha b=>zxg (hx.2.1 a ha) (by omega) b
 have hC:∀ a∈x.Ag,zfl a=(true,zxC a):=λa ha=>zNF a (by
  have:=hx.2.1 a ha;cases d with
  | zero=>exact this.elim
  | succ d=>have:=this.1; omega)
 obtain ⟨k,r,l,f,its,o,b⟩:=x;simp only at hA hW hS hF hE hC;unfold zj4 zca zef plA;simp only [zCT,hA,hW,hS,hF,Wy.fin_i,Wy.fin_k,Wy.fin_bn,cond_true]
 rw [show (b.Kind==(0:Int)&&(b.Int==(0:Int)&&(b.Text.toList==(ByteArray.mk #[]).toList&&true)))=bz b from rfl,
  show (r.Table==(0:Int)&&(r.Seq==(0:Int)&&true))=rz r from rfl,
  show (Int.ofNat its.length != 0)= !(its.length==0) from congrArg not (ztf its.length 0),show (f != 0)= !(f==0) from rfl,show (o != 0)= !(o==0) from rfl]
 generalize zra V l=A at *;generalize zCj V its=W at *;generalize bz b=B at *;generalize (f==0)=F at *;generalize (o==0)=O at *;generalize rz r=R at *;generalize zzu r=RO at *;generalize zUx its=S at *;generalize zAj f its o b=K at *;have hgt:decide (Int.ofNat its.length>0)=decide (0<its.length):=zly its.length 0;rw [hgt];generalize (its.length==0)=I at *;generalize decide (0<its.length)=J at *;by_cases h0:k=0
 ·subst h0;simp only [ztf,show ((Int.ofNat l.length)==(0:Int))=(l.length==0) from ztf l.length 0]
  generalize (l.length==0)=L;cases F <;>cases I <;>cases O <;>cases B <;>cases A <;>cases RO <;>rfl
 by_cases h1:k=1
 ·subst h1
  match l,hE with
  | [],_=>cases F <;>cases I <;>cases O <;>cases B <;>cases A <;>cases R <;>rfl
  | [u],_=>cases F <;>cases I <;>cases O <;>cases B <;>cases A <;>cases R <;>rfl
  | [u,v],hE=>
   have e:=hE u (by simp) v
   simp only [List.getD,qf,List.length_nil,Int.toNat_zero,List.getElem?_cons_zero,List.getElem?_cons_succ,Option.getD,show Int.toNat 1=1 from rfl,zYA]
   simp only [e];generalize decide (u=v)=E;cases F <;>cases I <;>cases O <;>cases B <;>cases A <;>cases R <;>rfl
  | u::v::w::l,_=>
   have e:((Int.ofNat (u::v::w::l).length)==(2:Int))=false:=by rw [beq_eq_false_iff_ne]; simp; omega
   simp only [e];cases F <;>cases I <;>cases O <;>cases B <;>cases A <;>cases R <;>rfl
 by_cases h2:k=2
 ·subst h2
  match l with
  | []=>cases F <;>cases I <;>cases O <;>cases B <;>cases A <;>cases R <;>rfl
  | [u]=>
   simp only [List.getD,qf,List.length_nil,Int.toNat_zero,List.getElem?_cons_zero,Option.getD,zE7,zRd,z1x];generalize isC u=E;generalize isU u=E';cases F <;>cases I <;>cases O <;>cases B <;>cases A <;>cases R <;>cases E <;>cases E' <;>rfl
  | u::v::l=>
   simp only [zMK];cases F <;>cases I <;>cases O <;>cases B <;>cases A <;>cases R <;>rfl
 by_cases h3:k=3
 ·subst h3
  match l,hC with
  | [],_=>cases F <;>cases I <;>cases O <;>cases B <;>cases A <;>cases R <;>rfl
  | [u],hC=>
   have e:=hC u (by simp)
   simp only [List.getD,qf,List.length_nil,Int.toNat_zero,List.getElem?_cons_zero,Option.getD,zE7];simp only [e];generalize zxC u=E;cases F <;>cases I <;>cases O <;>cases B <;>cases A <;>cases R <;>cases E <;>rfl
  | u::v::l,_=>
   simp only [zMK];cases F <;>cases I <;>cases O <;>cases B <;>cases A <;>cases R <;>rfl
 by_cases h4:k=4
 ·subst h4;simp only [show ((Int.ofNat l.length)==(0:Int))=(l.length==0) from ztf l.length 0]
  generalize (l.length==0)=L;cases A <;>cases W <;>cases L <;>cases J <;>cases S <;>cases K <;>cases R <;>rfl
 simp only [zhD,h0,h1,h2,h3,h4,decide_false,if_false,cond_false];cases F <;>cases I <;>cases O <;>cases B <;>cases A <;>cases R <;>rfl
end
section
variable (V:yB->Bool) (g:yB->Bool×Bool)
theorem zbdH (x:At) (hl:x.Ag.length<=1000000) (hg:∀ a∈x.Ag,g a=(true,V a)) (n:Nat) (hn:x.Ag.length<n):zvU g n 0 x=(true,bif zra V x.Ag then .inr x else .inl false):=by
 have:=zcA (W:=zCC g) (z:=.inl default) x.Ag.length (λi=>((),(i:Int),())) (λ_=>(x,())) (λi=>(λa:yB=>V a&& !(a.length==0)) (x.Ag.getD i default)) (.inl false) (.inr x)
  (λi hi H K D=>by
   show (zlr g i x).ev H K D=_;unfold zlr;have hL:decide ((i:Int)<Int.ofNat x.Ag.length)=true:=by simp [hi]
   simp only [Wy.ev_i,Wy.ev_k,Wy.ev_h,Wy.ev_bn,Wy.ev_d,hL,ze4,Bool.and_self,cond_true,Int.toNat_natCast,hg _ (zl hi)];rw [zB (by omega),show (Int.ofNat (x.Ag.getD i default).length==(0:Int))=((x.Ag.getD i default).length==0) from ztf _ 0]
   cases V (x.Ag.getD i default) <;>cases ((x.Ag.getD i default).length==0) <;>rfl)
  (λH K D=>by
   show (zlr g x.Ag.length x).ev H K D=_;unfold zlr;have hL:decide ((x.Ag.length:Int)<Int.ofNat x.Ag.length)=false:=by simp
   simp only [Wy.ev_i,Wy.ev_k,hL,cond_false]) n hn
 rw [zyN (λa:yB=>V a&& !(a.length==0))] at this
 exact this
theorem z2s {τ:Type} [Inhabited τ] (l:List τ) (i:Nat) (h:i<l.length):List.take 1 (List.drop i l)=[l.getD i default]:=by
 rw [zbl h]; rfl
theorem zbag (x y:TT):zbA [x] [y]=z8 x y:=by
 simp only [zbA];split
 ·rename_i h; exact h.symm
 ·rfl
theorem zbcA (x:At) {d:Nat} (hx:zdb (zo d) x) (hd:d<=99) (hg:∀ a∈x.Items,g a.Ann=(true,V a.Ann)) (n:Nat) (hn:x.Items.length<n):zBL g n 0 x=(true,bif zCj V x.Items&&zUx x.Items then .inr () else .inl false):=by
 have hl:x.Items.length<=1000000:=hx.1.2.1
 have:=zcA (W:=zCb g) (z:=.inl default) x.Items.length (λi=>((),(i:Int),())) (λ_=>(x,())) (λi=>(λw:Wd=>V w.Ann&& !(w.Ann.length==0)) (x.Items.getD i default)&&zPI x.Items i) (.inl false) (.inr ())
  (λi hi H K D=>by
   show (zkE g i x).ev H K D=_;unfold zkE;have hL:decide ((i:Int)<Int.ofNat x.Items.length)=true:=by simp [hi]
   simp only [Wy.ev_i,Wy.ev_k,Wy.ev_h,Wy.ev_bn,Wy.ev_d,hL,ze4,Bool.and_self,cond_true,Int.toNat_natCast,hg _ (zl hi)];rw [zB (by omega),show (Int.ofNat (x.Items.getD i default).Ann.length==(0:Int))=((x.Items.getD i default).Ann.length==0) from ztf _ 0]
   cases V (x.Items.getD i default).Ann <;>cases ((x.Items.getD i default).Ann.length==0) <;>try rfl
   simp only [cond_true,cond_false,Bool.not_true,Bool.not_false,Bool.and_self,Bool.true_and];cases i with
   | zero=>rfl
   | succ i=>
    have hi':i<x.Items.length:=by omega
    have hw:IntKind.i64.wrap (((i+1:Nat):Int) - 1)=(i:Int):=by rw [zys (by omega) (by omega)]; rfl
    have e1:(decide ((0:Int)<=(i:Int))&&decide ((i:Int)<=((i+1:Nat):Int))&&decide (((i+1:Nat):Int)<=Int.ofNat x.Items.length))=true:=by
     simp; try omega
    have e2:(decide (((i+1:Nat):Int)<=((i+1+1:Nat):Int))&&decide (((i+1+1:Nat):Int)<=Int.ofNat x.Items.length))=true:=by
     simp; try omega
    have e3:decide (((i+1:Nat):Int)>0)=true:=by simp; try omega
    simp only [hw,e1,e2,e3,cond_true,Bool.true_and,Int.toNat_natCast,show i+1 - i=1 by omega,show i+1+1 - (i+1)=1 by omega,z2s _ _ hi,z2s _ _ hi']
    rw [zB7 (d:=d) (by simp) (λw hw=>by
     rw [qh] at hw; subst hw; exact (hx.2.2 _ (zl hi')).2) hd,zm4,zm4]
    simp only [List.map,zbag,cond_true,zPI,show i+1 - 1=i from rfl]
    have e4:decide (i+1=0)=false:=by simp
    rw [e4,Bool.false_or];generalize z8 (z7 (x.Items.getD i default)) (z7 (x.Items.getD (i+1) default))=z;by_cases hz:z>0
    ·have:¬ z<=0:=by omega
     simp only [hz,this,decide_true,decide_false,cond_true,cond_false]
    ·have:z<=0:=by omega
     simp only [hz,this,decide_true,decide_false,cond_true,cond_false])
  (λH K D=>by
   show (zkE g x.Items.length x).ev H K D=_;unfold zkE;have hL:decide ((x.Items.length:Int)<Int.ofNat x.Items.length)=false:=by simp
   simp only [Wy.ev_i,Wy.ev_k,hL,cond_false]) n hn
 rw [z3q (λi=>(λw:Wd=>V w.Ann&& !(w.Ann.length==0)) (x.Items.getD i default)),zyN (λw:Wd=>V w.Ann&& !(w.Ann.length==0))] at this
 exact this
theorem zVq {A ρ:Type} (s:A) (k:A->Wy0 ρ) (z:ρ):(Wy.bn (true,s) k).fin z=(k s).fin z:=rfl
theorem zXZ (x:At) {d:Nat} (hx:zdb (zo d) x) (hd:d<=99) (h10:x.Items.length<=1024) (hV:∀ a,V a=true->isB a=isU a) (hgA:∀ a∈x.Ag,g a=(true,V a)) (hgI:∀ a∈x.Items,g a.Ann=(true,V a.Ann)):
  zui g x=(true,zef V x):=by
 have hS:=λn hn=>zbcA V g x hx hd hgI n hn
 have hA:=λn hn=>zbdH V g x hx.1.1 hgA n hn
 have hF:=z3V x.Func x.Items x.Op x.Bd hx.1.2.1;have hE:∀ a∈x.Ag,∀ b,zDG a b=(true,decide (a=b)):=λa ha b=>zRn (hx.2.1 a ha) (by omega) b
 have hC:∀ a∈x.Ag,zmB a=(true,zxC a):=λa ha=>zAl a (by
  have:=hx.2.1 a ha;cases d with
  | zero=>exact this.elim
  | succ d=>have:=this.1; omega)
 have hP:=z89 x;unfold zui zD8 zef;obtain ⟨s,hs1,hs2⟩:∃ s,zvU g (Int.toNat (0:Int)+x.Ag.length+x.Items.length+(1:Nat)) 0 x=(true,s)/\s=bif zra V x.Ag then .inr x else .inl false:=⟨_,hA _ (by omega),rfl⟩
 rw [At.eta,hP,hs1];simp only [Wy.fin_i,Wy.fin_k,zVq];simp only [Wy.fin_i,Wy.fin_k,Wy.fin_bn,cond_true];rw [show (x.Row.Table==(0:Int)&&(x.Row.Seq==(0:Int)&&true))=rz x.Row from rfl]
 have b0:(x.Kind==(0:Int))=decide (x.Kind=0):=zhD _ _;have b1:(x.Kind==(1:Int))=decide (x.Kind=1):=zhD _ _;have b2:(x.Kind==(2:Int))=decide (x.Kind=2):=zhD _ _;have b3:(x.Kind==(3:Int))=decide (x.Kind=3):=zhD _ _;have b4:(x.Kind==(4:Int))=decide (x.Kind=4):=zhD _ _;by_cases h0:x.Kind=0
 ·rw [b0];simp only [h0,decide_true,cond_true,if_true];rw [show (Int.ofNat x.Ag.length==(0:Int))=(x.Ag.length==0) from ztf _ 0]
  unfold zzu
  match hl:x.Ag with
  | []=>cases decide (x.Row.Table≥1) <;>cases decide (x.Row.Seq≥1) <;>cases plA x <;>rfl
  | u::l=>cases decide (x.Row.Table≥1) <;>cases decide (x.Row.Seq≥1) <;>cases plA x <;>cases zra V (u::l) <;>rfl
 rw [b0];simp only [h0,decide_false,cond_false,if_false];cases hA:zra V x.Ag with
 | false=>rw [hs2,hA]; cases rz x.Row <;>rfl
 | true=>
 rw [hA,cond_true] at hs2;have hy:getR s=x:=by rw [hs2]; rfl
 have hy2:isL s=false:=by rw [hs2]; rfl
 rw [hy2];generalize getR s=y at hy ⊢;subst hy;cases rz y.Row with
 | false=>rfl
 | true=>
 simp only [Bool.not_true,cond_false,cond_true,isL,getR,Bool.true_and,At.eta,hP,hF,b1,b2,b3,b4];by_cases h1:y.Kind=1
 ·simp only [h1,decide_true,cond_true,if_true]
  match hl:y.Ag with
  | []=>cases plA y <;>rfl
  | [u]=>cases plA y <;>rfl
  | [u,v]=>
   have e:=hE u (by rw [hl]; simp) v
   simp only [List.getD,qf,List.length_nil,Int.toNat_zero,List.getElem?_cons_zero,List.getElem?_cons_succ,Option.getD,show Int.toNat 1=1 from rfl,zYA]
   simp only [e];generalize decide (u=v)=E;cases plA y <;>rfl
  | u::v::w::l=>
   have e:((Int.ofNat (u::v::w::l).length)==(2:Int))=false:=by rw [beq_eq_false_iff_ne]; simp; omega
   simp only [e];cases plA y <;>rfl
 simp only [h1,decide_false,cond_false,if_false];by_cases h2:y.Kind=2
 ·simp only [h2,decide_true,cond_true,if_true]
  match hl:y.Ag with
  | []=>cases plA y <;>rfl
  | [u]=>
   have e:=hC u (by rw [hl]; simp)
   have eV:V u=true:=by
    rw [hl] at hA;unfold zra at hA;simp at hA;exact hA.1
   simp only [List.getD,qf,List.length_nil,Int.toNat_zero,List.getElem?_cons_zero,Option.getD,zE7,zLS,e,hV u eV]
   match u with
   | []=>cases plA y <;>rfl
   | [t]=>
    have e1:zxC [t]=(t.Fs.length==0):=by simp [zxC]
    have e2:isC [t]=(t.Fs.length==0):=rfl;rw [e1,e2];cases plA y <;>cases (t.Fs.length==0) <;>cases isU [t] <;>rfl
   | t::s::r=>
    simp only [zMK];cases plA y <;>rfl
  | u::v::l=>
   simp only [zMK];cases plA y <;>rfl
 simp only [h2,decide_false,cond_false,if_false];by_cases h3:y.Kind=3
 ·simp only [h3,decide_true,cond_true,if_true]
  match hl:y.Ag with
  | []=>cases plA y <;>rfl
  | [u]=>
   have e:=hC u (by rw [hl]; simp)
   simp only [List.getD,qf,List.length_nil,Int.toNat_zero,List.getElem?_cons_zero,Option.getD,zE7];simp only [e];cases plA y <;>cases zxC u <;>rfl
  | u::v::l=>
   simp only [zMK];cases plA y <;>rfl
 simp only [h3,decide_false,cond_false,if_false];by_cases h4:y.Kind=4
 ·have e10:decide (Int.ofNat y.Items.length>(1024:Int))=false:=by simp; omega
  rw [hS _ (by omega)]
  rw [e10];simp only [h4,decide_true,cond_true,if_true,cond_false];rw [show (Int.ofNat y.Ag.length != (0:Int))= !(y.Ag.length==0) from congrArg not (ztf y.Ag.length 0),show (Int.ofNat y.Items.length==(0:Int))=(y.Items.length==0) from ztf y.Items.length 0]
  have e11:decide (0<y.Items.length)= !(y.Items.length==0):=by
   rw [zW2];by_cases h:y.Items.length=0
   ·simp [h]
   ·have:0<y.Items.length:=by omega
    simp [h,this]
  rw [e11];cases (y.Ag.length==0) <;>cases (y.Items.length==0) <;>cases zAj y.Func y.Items y.Op y.Bd <;>cases zCj V y.Items <;>cases zUx y.Items <;>rfl
 simp only [h4,decide_false,cond_false,if_false]
end
section
variable (V:yB->Bool) (vat:At->Bool)
theorem V_9 (g:At->Bool×Bool) (a t10:yB) (t11 t12:Int) (t:Term) {d:Nat} (ht:zhd (zo d) t.Fs) (hd:d<=99) (hg:∀ f∈t.Fs,g f.At=(true,vat f.At)) (n:Nat) (hn:t.Fs.length<n):
  zuy g n a t10 t11 t12 t.Fs t.Fs.length 0 t=(true,bif okF vat t.Fs then .inr (a,t10,t11,t12) else .inl false):=by
 have hl:=ht.1
 exact zcA (W:=zuK g) (z:=.inl default) t.Fs.length (λk=>(a,(),t10,t11,t12,t.Fs,(t.Fs.length:Int),(k:Int),())) (λ_=>(t,())) (zNq vat t.Fs) (.inl false) (.inr (a,t10,t11,t12))
  (λk hk H K D=>by
   show (zkA g a t10 t11 t12 t.Fs t.Fs.length k t).ev H K D=_;unfold zkA zNq
   have hgt:decide ((k:Int)>0)= !decide (k=0):=by
    by_cases h:k=0
    ·subst h; rfl
    ·have:0<k:=by omega
     simp [h,this]
   simp only [At.eta,Wy.ev_i,Wy.ev_k,Wy.ev_h,Wy.ev_bn,Wy.ev_d,tT,hk,zZ1,hg _ (zl hk),hgt];rw [zB (by omega)]
   have e1:decide ((t.Fs.getD k default).Exp<1)= !decide (1<=(t.Fs.getD k default).Exp):=by
    by_cases h:1<=(t.Fs.getD k default).Exp
    ·have:¬ (t.Fs.getD k default).Exp<1:=by omega
     simp only [h,this,decide_true,decide_false,Bool.not_true]
    ·have:(t.Fs.getD k default).Exp<1:=by omega
     simp only [h,this,decide_true,decide_false,Bool.not_false]
   rw [e1];generalize decide (1<=(t.Fs.getD k default).Exp)=E1;generalize ((t.Fs.getD k default).Exp != 1)=E2;generalize ((t.Fs.getD k default).At.Kind==3||(t.Fs.getD k default).At.Kind==4)=E3;by_cases h0:k=0
   ·simp only [h0,decide_true,Bool.not_true,cond_false,Bool.true_or,Bool.and_true];cases E1 <;>cases E2 <;>cases E3 <;>cases vat (t.Fs.getD 0 default).At <;>rfl
   ·have hp:IntKind.i64.wrap ((k:Int) - 1)=((k - 1:Nat):Int):=zys (by omega) (by omega)
    have hk':k - 1<t.Fs.length:=by omega
    have hfx:zdb (zo d) (t.Fs.getD (k - 1) default).At:=ht.2 _ (zl hk')
    have e2:∀ z:Int,decide (z≥0)= !decide (z<0):=λz=>by
     by_cases h:z<0
     ·have:¬ z≥0:=by omega
      simp [h,this]
     ·have:z≥0:=by omega
      simp [h,this]
    simp only [h0,hp,tT,hk',zwA hfx hd,e2,Bool.false_or];generalize decide (z8 (zd4 (t.Fs.getD (k - 1) default).At) (zd4 (t.Fs.getD k default).At)<0)=E4;cases E1 <;>cases E2 <;>cases E3 <;>cases E4 <;>cases vat (t.Fs.getD k default).At <;>rfl)
  (λH K D=>by
   show (zkA g a t10 t11 t12 t.Fs t.Fs.length t.Fs.length t).ev H K D=_;unfold zkA;simp only [Wy.ev_i,Wy.ev_k,tT,Nat.lt_irrefl]) n hn
theorem V_4 (g:At->Bool×Bool) (a:yB) {d:Nat} (h:zo (d+1) a) (hd:d<=99) (hg:∀ t∈a,∀ f∈t.Fs,g f.At=(true,vat f.At)) (n:Nat) (hn:a.length<n):
  zCh g n a a a.length 0=(true,bif zeb (zCE vat a) a.length 0 then .inr () else .inl false):=by
 have hl:=h.1
 exact zcA (W:=zu4 g) (z:=.inl default) a.length (λk=>(a,a,(a.length:Int),(k:Int),())) (λ_=>()) (zCE vat a) (.inl false) (.inr ())
  (λk hk H K D=>by
   show (zkL g a a a.length k).ev H K D=_;unfold zkL zCE;have ht:=h.2 _ (zl hk)
   have hgt:decide ((k:Int)>0)= !decide (k=0):=by
    by_cases h:k=0
    ·subst h; rfl
    ·have:0<k:=by omega
     simp [h,this]
   simp only [At.eta,Wy.ev_i,Wy.ev_k,Wy.ev_h,Wy.ev_bn,Wy.ev_d,tT,hk,hgt];rw [V_9 vat g a a a.length k _ ht hd (hg _ (zl hk)) _ (by omega)]
   have e1:decide ((a.getD k default).Cf<1)= !decide (1<=(a.getD k default).Cf):=by
    by_cases h:1<=(a.getD k default).Cf
    ·have:¬ (a.getD k default).Cf<1:=by omega
     simp only [h,this,decide_true,decide_false,Bool.not_true]
    ·have:(a.getD k default).Cf<1:=by omega
     simp only [h,this,decide_true,decide_false,Bool.not_false]
   have e3:decide ((a.getD k default).Cf>1152921504606846976)= !decide ((a.getD k default).Cf<=1152921504606846976):=by
    by_cases h:(a.getD k default).Cf<=1152921504606846976
    ·have:¬ (a.getD k default).Cf>1152921504606846976:=by omega
     simp only [h,this,decide_true,decide_false,Bool.not_true]
    ·have:(a.getD k default).Cf>1152921504606846976:=by omega
     simp only [h,this,decide_true,decide_false,Bool.not_false]
   rw [e1,e3];generalize decide (1<=(a.getD k default).Cf)=E1;generalize decide ((a.getD k default).Cf<=1152921504606846976)=E2;by_cases h0:k=0
   ·subst h0;simp only [decide_true,Bool.not_true,cond_false,Bool.true_or,Bool.and_true];cases okF vat (a.getD 0 default).Fs <;>cases E1 <;>cases E2 <;>try rfl
   ·have hp:IntKind.i64.wrap ((k:Int) - 1)=((k - 1:Nat):Int):=zys (by omega) (by omega)
    have hk':k - 1<a.length:=by omega
    have hfx:zhd (zo d) (a.getD (k - 1) default).Fs:=h.2 _ (zl hk')
    have e2:∀ z:Int,decide (z≥0)= !decide (z<0):=λz=>by
     by_cases h:z<0
     ·have:¬ z≥0:=by omega
      simp [h,this]
     ·have:z≥0:=by omega
      simp [h,this]
    simp only [h0,hp,tT,hk',zwP hfx hd,e2,Bool.false_or];generalize decide (zbA (zbo (a.getD (k - 1) default).Fs) (zbo (a.getD k default).Fs)<0)=E4;cases okF vat (a.getD k default).Fs <;>cases E1 <;>cases E2 <;>cases E4 <;>try rfl
    simp only [cond_true,cond_false,Bool.not_true,isL,getR,Bool.and_self];rw [zB (by omega),decide_eq_false (show ¬ ((k - 1:Nat):Int)<0 by omega)]; rfl)
  (λH K D=>by
   show (zkL g a a a.length a.length).ev H K D=_;unfold zkL;simp only [Wy.ev_i,Wy.ev_k,tT,Nat.lt_irrefl]) n hn
theorem z6t (g:At->Bool×Bool) (a:yB) {d:Nat} (h:zo (d+1) a) (hd:d<=99) (hs:zM a<=4611686018427387904) (hg:∀ t∈a,∀ f∈t.Fs,g f.At=(true,vat f.At)):znC g a=(true,zxp vat a):=by
 unfold znC zDj zxp;have:=V_4 vat g a h hd hg (a.length+a.length+(Int.ofNat a.length).toNat +Int.toNat (0:Int)+(1:Nat)) (by omega)
 rw [show Int.ofNat a.length=(a.length:Int) from rfl] at *
 simp only [Wy.fin_i,Wy.fin_k,Wy.fin_bn,z0N h (by omega) hs,this,cond_true]
 cases zfx a <;>cases zeb (zCE vat a) a.length 0 <;>rfl
theorem zbdt (g:At->Bool×Bool) (a:yB) (i:Int) (t:Term) {d:Nat} (ht:zhd (zo d) t.Fs) (hd:d<=99) (hg:∀ f∈t.Fs,g f.At=(true,vat f.At)) (hk:∀ x,vat x=true->0<=x.Kind/\x.Kind<=4) (n:Nat) (hn:t.Fs.length<n):
  zAw g n a i 0 t=(true,bif okF vat t.Fs then .inr (a,i) else .inl false):=by
 have hl:=ht.1
 exact zcA (W:=zHL g) (z:=.inl default) t.Fs.length (λk=>(a,i,(),(k:Int),())) (λ_=>(t,())) (zNq vat t.Fs) (.inl false) (.inr (a,i))
  (λk hk1 H K D=>by
   show (zpg g a i k t).ev H K D=_;unfold zpg zNq
   have hgt:decide ((k:Int)>0)= !decide (k=0):=by
    by_cases h:k=0
    ·subst h; rfl
    ·have:0<k:=by omega
     simp [h,this]
   simp only [At.eta,Wy.ev_i,Wy.ev_k,Wy.ev_h,Wy.ev_bn,Wy.ev_d,tT,hk1,hg _ (zl hk1),hgt];rw [zB (by omega)]
   have hk2:=hk (t.Fs.getD k default).At
   have e1:decide ((t.Fs.getD k default).Exp<1)= !decide (1<=(t.Fs.getD k default).Exp):=by
    by_cases h:1<=(t.Fs.getD k default).Exp
    ·have:¬ (t.Fs.getD k default).Exp<1:=by omega
     simp only [h,this,decide_true,decide_false,Bool.not_true]
    ·have:(t.Fs.getD k default).Exp<1:=by omega
     simp only [h,this,decide_true,decide_false,Bool.not_false]
   rw [e1];by_cases hx1:1<=(t.Fs.getD k default).Exp
   rotate_left
   ·simp only [hx1,decide_false,Bool.not_false,cond_true,Bool.false_and,cond_false]
   cases hv:vat (t.Fs.getD k default).At with
   | false=>
    rw [Bool.and_false];cases decide (1<=(t.Fs.getD k default).Exp) <;>cases decide ((t.Fs.getD k default).Exp>1) <;>cases decide ((t.Fs.getD k default).At.Kind≥3) <;>rfl
   | true=>
   obtain ⟨k1,k2⟩:=hk2 hv
   have e5:((t.Fs.getD k default).At.Kind==3||(t.Fs.getD k default).At.Kind==4)=decide ((t.Fs.getD k default).At.Kind≥3):=by
    rw [zhD,zhD, <- Bool.decide_or];congr 1;apply propext; omega
   have e6:((t.Fs.getD k default).Exp != 1)=decide ((t.Fs.getD k default).Exp>1):=by
    rw [zsD, <- decide_not];congr 1;apply propext; omega
   rw [e5,e6];simp only [hx1,decide_true,Bool.not_true,cond_false,Bool.true_and];generalize decide ((t.Fs.getD k default).Exp>1)=E2;generalize decide ((t.Fs.getD k default).At.Kind≥3)=E3;by_cases h0:k=0
   ·simp only [h0,decide_true,Bool.not_true,cond_false,Bool.true_or,Bool.and_true];cases E2 <;>cases E3 <;>rfl
   ·have hp:IntKind.i64.wrap ((k:Int) - 1)=((k - 1:Nat):Int):=zys (by omega) (by omega)
    have hk':k - 1<t.Fs.length:=by omega
    have hfx:zdb (zo d) (t.Fs.getD (k - 1) default).At:=ht.2 _ (zl hk')
    have e2:∀ z:Int,decide (z≥0)= !decide (z<0):=λz=>by
     by_cases h:z<0
     ·have:¬ z≥0:=by omega
      simp [h,this]
     ·have:z≥0:=by omega
      simp [h,this]
    simp only [h0,hp,tT,hk',zvF hfx hd,e2,Bool.false_or];generalize decide (z8 (zd4 (t.Fs.getD (k - 1) default).At) (zd4 (t.Fs.getD k default).At)<0)=E4;cases E2 <;>cases E3 <;>cases E4 <;>rfl)
  (λH K D=>by
   show (zpg g a i t.Fs.length t).ev H K D=_;unfold zpg;simp only [Wy.ev_i,Wy.ev_k,tT,Nat.lt_irrefl]) n hn
theorem zbeg (g:At->Bool×Bool) (a:yB) {d:Nat} (h:zo (d+1) a) (hd:d<=99) (hg:∀ t∈a,∀ f∈t.Fs,g f.At=(true,vat f.At)) (hk:∀ x,vat x=true->0<=x.Kind/\x.Kind<=4) (n:Nat) (hn:a.length<n):
  zI2 g n a 0=(true,bif zeb (zCE vat a) a.length 0 then .inr () else .inl false):=by
 have hl:=h.1
 exact zcA (W:=zJX g) (z:=.inl default) a.length (λk=>(a,(k:Int),())) (λ_=>()) (zCE vat a) (.inl false) (.inr ())
  (λk hk1 H K D=>by
   show (zrj g a k).ev H K D=_;unfold zrj zCE;have ht:=h.2 _ (zl hk1)
   have hgt:decide ((k:Int)>0)= !decide (k=0):=by
    by_cases h:k=0
    ·subst h; rfl
    ·have:0<k:=by omega
     simp [h,this]
   simp only [At.eta,Wy.ev_i,Wy.ev_k,Wy.ev_h,Wy.ev_bn,Wy.ev_d,tT,hk1,hgt];rw [zbdt vat g a k _ ht hd (hg _ (zl hk1)) hk _ (by omega)]
   have e1:decide ((a.getD k default).Cf<1)= !decide (1<=(a.getD k default).Cf):=by
    by_cases h:1<=(a.getD k default).Cf
    ·have:¬ (a.getD k default).Cf<1:=by omega
     simp only [h,this,decide_true,decide_false,Bool.not_true]
    ·have:(a.getD k default).Cf<1:=by omega
     simp only [h,this,decide_true,decide_false,Bool.not_false]
   have e3:decide ((a.getD k default).Cf>1152921504606846976)= !decide ((a.getD k default).Cf<=1152921504606846976):=by
    by_cases h:(a.getD k default).Cf<=1152921504606846976
    ·have:¬ (a.getD k default).Cf>1152921504606846976:=by omega
     simp only [h,this,decide_true,decide_false,Bool.not_true]
    ·have:(a.getD k default).Cf>1152921504606846976:=by omega
     simp only [h,this,decide_true,decide_false,Bool.not_false]
   rw [e1,e3];generalize decide (1<=(a.getD k default).Cf)=E1;generalize decide ((a.getD k default).Cf<=1152921504606846976)=E2;by_cases h0:k=0
   ·subst h0;simp only [decide_true,Bool.not_true,cond_false,Bool.true_or,Bool.and_true];cases okF vat (a.getD 0 default).Fs <;>cases E1 <;>cases E2 <;>try rfl
   ·have hp:IntKind.i64.wrap ((k:Int) - 1)=((k - 1:Nat):Int):=zys (by omega) (by omega)
    have hk':k - 1<a.length:=by omega
    have hfx:zhd (zo d) (a.getD (k - 1) default).Fs:=h.2 _ (zl hk')
    have e2:∀ z:Int,decide (z≥0)= !decide (z<0):=λz=>by
     by_cases h:z<0
     ·have:¬ z≥0:=by omega
      simp [h,this]
     ·have:z≥0:=by omega
      simp [h,this]
    simp only [h0,hp,tT,hk',zsA hfx hd,e2,Bool.false_or];generalize decide (zbA (zbo (a.getD (k - 1) default).Fs) (zbo (a.getD k default).Fs)<0)=E4;cases okF vat (a.getD k default).Fs <;>cases E1 <;>cases E2 <;>cases E4 <;>try rfl
    simp only [cond_true,cond_false,Bool.not_true,isL,getR,Bool.and_self];rw [zB (by omega),decide_eq_false (show ¬ ((k - 1:Nat):Int)<0 by omega)]; rfl)
  (λH K D=>by
   show (zrj g a a.length).ev H K D=_;unfold zrj;simp only [Wy.ev_i,Wy.ev_k,tT,Nat.lt_irrefl]) n hn
theorem z4F (g:At->Bool×Bool) (a:yB) {d:Nat} (h:zo (d+1) a) (hd:d<=99) (hs:zM a<=4611686018427387904) (hg:zfx a=true->∀ t∈a,∀ f∈t.Fs,g f.At=(true,vat f.At)) (hk:∀ x,vat x=true->0<=x.Kind/\x.Kind<=4):zA5 g a=(true,zxp vat a):=by
 unfold zA5 zLP zxp;rw [Wy.fin_bn,z5d h (by omega) hs]
 cases hw:zfx a with
 | false=>rfl
 | true=>
  have:=zbeg vat g a h hd (hg hw) hk ((a.length+Int.toNat (0:Int)+(1:Nat))+zgV a) (by omega)
  simp only [Wy.fin_i,Wy.fin_k,Wy.fin_bn,this,cond_true];cases zeb (zCE vat a) a.length 0 <;>rfl
end
theorem zWv {l:yA} {a:yB} (h:a∈l):zM a<=zfw l:=by
 induction l with
 | nil=>cases h
 | cons b r ih=>
  rw [zfe];rcases qd.1 h with rfl | h
  ·omega
  ·have:=ih h; omega
theorem zSF {l:yD} {w:Wd} (h:w∈l):zM w.Ann<=zc9 l:=by
 induction l with
 | nil=>cases h
 | cons b r ih=>
  rw [ziR];rcases qd.1 h with rfl | h
  ·omega
  ·have:=ih h; omega
theorem zUX {m:Nat} {a:yB} (h:zbr m a=true):isB a=isU a:=by
 cases m with
 | zero=>cases h
 | succ m=>
 match a with
 | []=>rfl
 | [t]=>
  simp only [zbr,zxp,qc] at h;have h1:=zdB.1 h.2 0 (by omega) (by simp)
  simp only [zCE,qc] at h1;have h2:=h1.2;obtain ⟨c,fs⟩:=t
  match fs with
  | []=>rfl
  | [f]=>
   have h3:=zdB.1 h2 0 (by omega) (by simp)
   simp only [zNq,qc] at h3;have h4:=zDs h3.2;simp only [List.getD_cons_zero] at h4;show (c==1&&(f.Exp==1&&decide (2<=f.At.Kind)))=(c==1&&(f.Exp==1&&(f.At.Kind==2||f.At.Kind==3||f.At.Kind==4)))
   have e:decide (2<=f.At.Kind)=(f.At.Kind==2||f.At.Kind==3||f.At.Kind==4):=by
    rw [zhD,zhD,zhD, <- Bool.decide_or, <- Bool.decide_or];congr 1;apply propext; omega
   rw [e]
  | f::f'::r=>rfl
 | t::u::r=>rfl
theorem zbdL (g) (l:yA):zcH g l=IG (λ(_:Unit) x=>g x) (l.length+(Int.ofNat l.length).toNat +Int.toNat (0:Int)+(1:Nat)) () l:=rfl
theorem zbdm (g) (l:yD):zcZ g l=IG (λ(_:Unit) x=>g x) (l.length+(Int.ofNat l.length).toNat +Int.toNat (0:Int)+(1:Nat)) () l:=rfl
theorem zLH:∀ n,
  (∀ d m a,zo d a->10*d<=n->d<=m->d<=100->zM a<=4611686018427387904->zkJ n a=(true,zbr m a))/\
  (∀ d m x,zdb (zo d) x->10*d+9<=n->d<=m->d<=99->zfq x<=4611686018427387904->zmU n x=(true,zef (zbr m) x))/\
  (∀ d m a,zo d a->10*d+6<=n->d<=m->d<=99->zM a<=4611686018427387904->zfo n a=(true, !(zbr m a&& !(a.length==0))))/\
  (∀ d m (w:Wd),zo d w.Ann->10*d+6<=n->d<=m->d<=99->zM w.Ann<=4611686018427387904->zft n w=(true, !(zbr m w.Ann&& !(w.Ann.length==0))))/\
  (∀ d m (l:yA),l.length<=1000000->(∀ a∈l,zo d a/\zM a<=4611686018427387904)->10*d+7<=n->d<=m->d<=99->zcE n l=(true,ixf (λa=> !(zbr m a&& !(a.length==0))) l 0))/\
  (∀ d m (l:yA),l.length<=1000000->(∀ a∈l,zo d a/\zM a<=4611686018427387904)->10*d+8<=n->d<=m->d<=99->zco n l=(true, !zra (zbr m) l))/\
  (∀ d m (l:yD),l.length<=1000000->(∀ a∈l,zo d a.Ann/\zM a.Ann<=4611686018427387904)->10*d+7<=n->d<=m->d<=99->zc4 n l=(true,ixf (λa=> !(zbr m a.Ann&& !(a.Ann.length==0))) l 0))/\
  (∀ d m (l:yD),l.length<=1000000->(∀ a∈l,zo d a.Ann/\zM a.Ann<=4611686018427387904)->10*d+8<=n->d<=m->d<=99->zcL n l=(true, !zCj (zbr m) l))
 | 0=>by
  refine ⟨?_, ?_, ?_, ?_, ?_, ?_, ?_, ?_⟩
  ·intro d m a h hd; have:d=0:=by omega
   subst this; exact h.elim
  all_goals (intros; omega)
 | n+1=>by
  obtain ⟨h1,h2,h3,h4,h5,h6,h7,h8⟩:=zLH n;refine ⟨?_, ?_, ?_, ?_, ?_, ?_, ?_, ?_⟩
  ·intro d m a h hd hm hd2 hs;cases d with
   | zero=>exact h.elim
   | succ d=>
    cases m with
    | zero=>omega
    | succ m=>
     rw [zOB]
     exact z6t _ _ a h (by omega) hs λt ht f hf=>h2 d m f.At ((h.2 t ht).2 f hf) (by omega) (by omega) (by omega) (by
      have:=zZW ht hf; rw [zhP]; omega)
  ·intro d m x h hd hm hd2 hs;rw [zIh];rw [zhP] at hs
   exact zZI _ _ _ _ _ x h hd2 (h6 d m _ h.1.1 (λa ha=>⟨h.2.1 a ha,by have:=zWv ha; omega⟩) (by omega) hm hd2)
    (h8 d m _ h.1.2.1 (λa ha=>⟨(h.2.2 a ha).2,by have:=zSF ha; omega⟩) (by omega) hm hd2)
  ·intro d m a h hd hm hd2 hs;rw [zE4];unfold zkS zvs;rw [Wy.fin_bn,h1 d m a h (by omega) hm (by omega) hs]
   simp only [cond_true,Wy.fin_i,Wy.fin_k,show (Int.ofNat a.length==(0:Int))=(a.length==0) from ztf a.length 0]
   cases zbr m a <;>simp
  ·intro d m a h hd hm hd2 hs;rw [zER];unfold zkT zvy;rw [Wy.fin_bn,h1 d m a.Ann h (by omega) hm (by omega) hs]
   simp only [cond_true,Wy.fin_i,Wy.fin_k,show (Int.ofNat a.Ann.length==(0:Int))=(a.Ann.length==0) from ztf a.Ann.length 0]
   cases zbr m a.Ann <;>simp
  ·intro d m l hl h hd hm hd2;rw [zm1,zbdL];exact zIj _ _ _ _ _ (by omega) (λx hx=>h3 d m x (h x hx).1 (by omega) hm hd2 (h x hx).2) (by omega)
  ·intro d m l hl h hd hm hd2;rw [zlV];unfold zcp zfI;rw [zla (h5 d m l hl h (by omega) hm hd2)]
   simp [zra,List.all_eq_not_any_not]
  ·intro d m l hl h hd hm hd2;rw [zpp,zbdm];exact zIj _ _ _ _ _ (by omega) (λx hx=>h4 d m x (h x hx).1 (by omega) hm hd2 (h x hx).2) (by omega)
  ·intro d m l hl h hd hm hd2;rw [znB];unfold zcM zgH;rw [zla (h7 d m l hl h (by omega) hm hd2)]
   simp [zCj,List.all_eq_not_any_not]
theorem z42 {a:yB} (h:zfx a=true) {t:Term} (ht:t∈a) {f:Fc} (hf:f∈t.Fs):f.At.Items.length<=1024/\f.Exp<=64/\t.Fs.length<=64:=by
 simp only [zfx,qc,List.all_eq_true] at h;have:=h.2 t ht;simp only [zA7,Bool.not_eq_true',Bool.or_eq_false_iff,decide_eq_false_iff_not,List.any_eq_false] at this;have h2:=this.2 f hf;simp at h2;omega
theorem zYY:∀ n,
  (∀ d m a,zo d a->3*d<=n->d<=m->d<=100->zM a<=4611686018427387904->zA6 n a=(true,zbr m a))/\
  (∀ d m x,zdb (zo d) x->3*d+2<=n->d<=m->d<=99->zfq x<=4611686018427387904->x.Items.length<=1024->zAu n x=(true,zef (zbr m) x))
 | 0=>by
  refine ⟨?_, ?_⟩
  ·intro d m a h hd; have:d=0:=by omega
   subst this; exact h.elim
  ·intros; omega
 | n+1=>by
  obtain ⟨h1,h2⟩:=zYY n;refine ⟨?_, ?_⟩
  ·intro d m a h hd hm hd2 hs;cases d with
   | zero=>exact h.elim
   | succ d=>
    cases m with
    | zero=>omega
    | succ m=>
     rw [zXI]
     exact z4F _ _ a h (by omega) hs (λhw t ht f hf=>h2 d m f.At ((h.2 t ht).2 f hf) (by omega) (by omega) (by omega) (by
      have:=zZW ht hf; rw [zhP]; omega) (z42 hw ht hf).1) λx hx=>zDs hx
  ·intro d m x h hd hm hd2 hs h10;rw [zPL];rw [zhP] at hs
   exact zXZ _ _ x h hd2 h10 (λa ha=>zUX ha) (λa ha=>h1 d m a (h.2.1 a ha) (by omega) hm (by omega) (by have:=zWv ha; omega))
    λa ha=>h1 d m a.Ann (h.2.2 a ha).2 (by omega) hm (by omega) (by have:=zSF ha; omega)
def zR (a:yB):Bool:=zbr 100 a
theorem z1m {d:Nat} {a:yB} (h:zo d a) (hd:d<=100) (hs:zM a<=4611686018427387904):zb9 a=(true,zR a):=(zLH 1000).1 d 100 a h (by omega) hd hd hs
theorem zZi {d:Nat} {a:yB} (h:zo d a) (hd:d<=100) (hs:zM a<=4611686018427387904):zkd a=(true,zR a):=(zYY 1000).1 d 100 a h (by omega) hd hd hs
def zV3 (a:yB):Wy0 (yB×Int):=.bn (zHZ a) λr0=>.i (!r0) (.k ([],6)) (.k (a,0))
def ztx (a:yB):=(zV3 a).fin default
def z44:Wy0 (yB):=.k [TO.mk 1 []]
def zUR:Bool×yB:=(z44).fin default
theorem zMI {τ:Type} [Inhabited τ] {l:List τ} {x:τ} (h:x∈l):∃ i,i<l.length/\l.getD i default=x:=by
 obtain ⟨i,hi,e⟩:=List.mem_iff_getElem.1 h;exact ⟨i,hi,by rw [List.getD_eq_getElem?_getD,List.getElem?_eq_getElem hi]; exact e⟩
theorem zGt {vat:At->Bool} {a:yB} (h:zxp vat a=true):zfx a=true:=by
 simp only [zxp,qc] at h; exact h.1
theorem zvt {vat:At->Bool} {a:yB} (h:zxp vat a=true) {t:Term} (ht:t∈a):(1<=t.Cf/\t.Cf<=1152921504606846976)/\okF vat t.Fs=true:=by
 simp only [zxp,qc] at h;obtain ⟨i,hi,rfl⟩:=zMI ht;have:=zdB.1 h.2 i (by omega) (by omega)
 simp only [zCE,qc,qe] at this;exact ⟨this.1.1,this.2⟩
theorem zpH {vat:At->Bool} {fs:yC} (h:okF vat fs=true) {f:Fc} (hf:f∈fs):(1<=f.Exp/\(f.At.Kind=3\/f.At.Kind=4->f.Exp=1))/\vat f.At=true:=by
 obtain ⟨i,hi,rfl⟩:=zMI hf;have:=zdB.1 h i (by omega) (by omega)
 simp only [zNq,qc,qe] at this;refine ⟨⟨this.1.1.1,λhk=> ?_⟩,this.2⟩
 have h2:=this.1.1.2;rcases hk with hk | hk
 ·rw [hk] at h2; simpa using h2
 ·rw [hk] at h2; simpa using h2
theorem zbbU {b:Value} (h:bz b=true):b=⟨0,0,ByteArray.mk #[]⟩:=by
 unfold bz at h;rw [zCl] at h;simp only [qc,beq_iff_eq,qe,and_true] at h;obtain ⟨k,i,t⟩:=b;simp only at h;obtain ⟨rfl,rfl,rfl⟩:=h;rfl
theorem zvx {v:Value} (h:zsB v=true):v.Text.size<=255:=by
 simp only [zsB,Bool.or_eq_true,qc,beq_iff_eq,qe] at h;omega
theorem zPQ {x:At} (h:plA x=true):x.Func=0/\x.Items=[]/\x.Op=0/\x.Bd=⟨0,0,ByteArray.mk #[]⟩:=by
 simp only [plA,qc,beq_iff_eq] at h;exact ⟨h.1.1.1,List.length_eq_zero_iff.1 h.1.1.2,h.1.2,zbbU h.2⟩
theorem zbbb {r:RowID} (h:rz r=true):r=⟨0,0⟩:=by
 simp only [rz,qc,beq_iff_eq,and_true] at h;obtain ⟨t,s⟩:=r;simp only at h;obtain ⟨rfl,rfl⟩:=h; rfl
inductive VA (V:yB->Bool):At->Prop
 | var (r:RowID) (h:zzu r=true):VA V ⟨0,r,[],0,[],0,⟨0,0,ByteArray.mk #[]⟩⟩
 | mon (a b:yB) (ha:V a=true) (hb:V b=true) (ha0:a≠[]) (hb0:b≠[]) (h:a≠b):VA V ⟨1,⟨0,0⟩,[a,b],0,[],0,⟨0,0,ByteArray.mk #[]⟩⟩
 | del (a:yB) (ha:V a=true) (ha0:a≠[]) (h:isC a=false) (h':isU a=false):VA V ⟨2,⟨0,0⟩,[a],0,[],0,⟨0,0,ByteArray.mk #[]⟩⟩
 | abs (a:yB) (ha:V a=true) (ha0:a≠[]) (h:zxC a=false):VA V ⟨3,⟨0,0⟩,[a],0,[],0,⟨0,0,ByteArray.mk #[]⟩⟩
 | tst (f:Int) (l:yD) (o:Int) (b:Value) (hl:l≠[]) (hi:∀ w∈l,V w.Ann=true/\w.Ann≠[]) (hs:zUx l=true) (hf:zAj f l o b=true):VA V ⟨4,⟨0,0⟩,[],f,l,o,b⟩
theorem zdz {V:yB->Bool} {x:At}:zef V x=true↔VA V x:=by
 constructor
 ·intro h;have hk:=zDs h;obtain ⟨k,r,l,f,its,o,b⟩:=x;simp only at hk;unfold zef at h;simp only [qc] at h;obtain ⟨h1,h2⟩:=h
  have ha:∀ a∈l,V a=true/\a≠[]:=λa ha=>by
   have:=List.all_eq_true.1 h1 a ha;simp only [qc,Bool.not_eq_true',beq_eq_false_iff_ne] at this;exact ⟨this.1,λe=>this.2 (by rw [e]; rfl)⟩
  by_cases h0:k=0
  ·subst h0;simp only [if_true,qc,beq_iff_eq] at h2;obtain ⟨e1,e2,e3,e4⟩:=zPQ h2.1.1;simp only at e1 e2 e3 e4;subst e1 e2 e3 e4;obtain rfl:l=[]:=List.length_eq_zero_iff.1 h2.2;exact .var r h2.1.2
  simp only [h0,if_false,qc] at h2;obtain ⟨hr,h2⟩:=h2;have hr':=zbbb hr;subst hr';by_cases h0':k=1
  ·subst h0';simp only [if_true,qc] at h2;obtain ⟨e1,e2,e3,e4⟩:=zPQ h2.1;simp only at e1 e2 e3 e4;subst e1 e2 e3 e4
   match l,h2.2,ha with
   | [a,b],h3,ha=>exact .mon a b (ha a (by simp)).1 (ha b (by simp)).1 (ha a (by simp)).2 (ha b (by simp)).2 (by simpa [zYA] using h3)
  simp only [h0',if_false] at h2;by_cases h2':k=2
  ·subst h2';simp only [if_true,qc] at h2;obtain ⟨e1,e2,e3,e4⟩:=zPQ h2.1;simp only at e1 e2 e3 e4;subst e1 e2 e3 e4
   match l,h2.2,ha with
   | [a],h3,ha=>
    simp only [zE7,qc,Bool.not_eq_true'] at h3;exact .del a (ha a (by simp)).1 (ha a (by simp)).2 h3.1 h3.2
  simp only [h2',if_false] at h2;by_cases h3':k=3
  ·subst h3';simp only [if_true,qc] at h2;obtain ⟨e1,e2,e3,e4⟩:=zPQ h2.1;simp only at e1 e2 e3 e4;subst e1 e2 e3 e4
   match l,h2.2,ha with
   | [a],h3,ha=>
    simp only [zE7,Bool.not_eq_true'] at h3;exact .abs a (ha a (by simp)).1 (ha a (by simp)).2 h3
  simp only [h3',if_false] at h2;have h4':k=4:=by omega
  subst h4';simp only [if_true,qc,beq_iff_eq,qe] at h2;obtain ⟨⟨⟨⟨h3,h4⟩,h5⟩,h6⟩,h7⟩:=h2;obtain rfl:l=[]:=List.length_eq_zero_iff.1 h3
  exact .tst f its o b (λe=>by rw [e] at h4; simp at h4) (λw hw=>by
   have:=List.all_eq_true.1 h5 w hw;simp only [qc,Bool.not_eq_true',beq_eq_false_iff_ne] at this;exact ⟨this.1,λe=>this.2 (by rw [e]; rfl)⟩) h6 h7
 ·intro h
  have ne:∀ a:yB,a≠[]->(a.length==0)=false:=λa ha=>by
   rw [beq_eq_false_iff_ne]; exact λe=>ha (List.length_eq_zero_iff.1 e)
  cases h with
  | var r h=>simp [zef,zra,plA,bz,h]
  | mon a b ha hb ha0 hb0 h=>simp [zef,zra,plA,bz,rz,zYA,ha,hb,ha0,hb0,h]
  | del a ha ha0 h h'=>simp [zef,zra,plA,bz,rz,zE7,ha,ha0,h,h']
  | abs a ha ha0 h=>simp [zef,zra,plA,bz,rz,zE7,ha,ha0,h]
  | tst f l o b hl hi hs hf=>
   have h1:zCj V l=true:=List.all_eq_true.2 λw hw=>by rw [(hi w hw).1,ne _ (hi w hw).2]; rfl
   have h2:0<l.length:=by
    cases l with
    | nil=>exact absurd rfl hl
    | cons x r=>simp
   simp [zef,zra,rz,h1,hs,hf,h2]
theorem zvI {a:yB} (h:zfx a=true):a.length<=512/\zbj a<=8/\zM a<=4096/\∀ t∈a,t.Fs.length<=64/\∀ f∈t.Fs,f.Exp<=64/\f.At.Items.length<=1024:=by
 simp only [zfx,qc,List.all_eq_true,qe] at h;refine ⟨h.1.1.1,h.1.1.2,h.1.2,λt ht=> ?_⟩
 have:=h.2 t ht;simp only [zA7,Bool.not_eq_true',Bool.or_eq_false_iff,decide_eq_false_iff_not,List.any_eq_false] at this;refine ⟨by omega,λf hf=> ?_⟩
 have h2:=this.2 f hf;simp at h2;omega
theorem zZq {a:yB} {t:Term} (h:t∈a):zdl t.Fs<=zbj a:=by
 induction a with
 | nil=>cases h
 | cons b r ih=>
  rw [zxd];rcases qd.1 h with rfl | h
  ·omega
  ·have:=ih h; omega
theorem zO7 {l:yC} {f:Fc} (h:f∈l):zoo f.At<=zdl l:=by
 induction l with
 | nil=>cases h
 | cons b r ih=>
  rw [zjO];rcases qd.1 h with rfl | h
  ·omega
  ·have:=ih h; omega
theorem zMY {l:yA} {a:yB} (h:a∈l):zbj a<=zmx l:=by
 induction l with
 | nil=>cases h
 | cons b r ih=>
  rw [zCQ];rcases qd.1 h with rfl | h
  ·omega
  ·have:=ih h; omega
theorem z4z {l:yD} {w:Wd} (h:w∈l):zbj w.Ann<=zlG l:=by
 induction l with
 | nil=>cases h
 | cons b r ih=>
  rw [zBa];rcases qd.1 h with rfl | h
  ·omega
  ·have:=ih h; omega
theorem ztC {f:Int} {l:yD} {o:Int} {b:Value} (h:zAj f l o b=true):(0<=f/\f<=3/\5<=o/\o<=10)/\zsB b=true/\∀ w∈l,zsB w.Value=true/\w.Value.Kind=b.Kind:=by
 simp only [zAj,qc,List.all_eq_true,qe] at h;obtain ⟨⟨⟨⟨⟨⟨h1,h2⟩,h3⟩,h4⟩,h5⟩,h6⟩,h7⟩:=h;refine ⟨⟨h1,h2,h3,h4⟩,h5,λw hw=> ?_⟩
 have:=h7 w hw;simp only [zJc,qc,beq_iff_eq] at this;exact this.1
theorem zX5:∀ (m:Nat) (a:yB),zbr m a=true->zo (zbj a+1) a
 | 0,a,h=>by cases h
 | m+1,a,h=>by
  have hw:=zvI (zGt h);refine ⟨by omega,λt ht=> ?_⟩
  obtain ⟨_,hok⟩:=zvt h ht;obtain ⟨h1,h2⟩:=hw.2.2.2 t ht;refine ⟨by omega,λf hf=> ?_⟩
  have hv:=zdz.1 (zpH hok hf).2;have hn:zoo f.At<=zbj a:=Nat.le_trans (zO7 hf) (zZq ht);have h3:=(h2 f hf).2;generalize f.At=x at hv hn h3;rw [zDi] at hn;have ih:∀ b,zbr m b=true->zbj b+1<=zbj a->zo (zbj a) b:=λb hb hl=>(zX5 m b hb).mono hl
  cases hv with
  | var r h=>exact ⟨⟨by simp,by simp,by show (ByteArray.mk #[]).size<=_; decide⟩,λa ha=>(by cases ha),λw hw=>(by cases hw)⟩
  | mon b c hb hc _ _ _=>
   simp only at hn;refine ⟨⟨by simp,by simp,by show (ByteArray.mk #[]).size<=_; decide⟩,λy hy=> ?_,λw hw=>(by cases hw)⟩
   have:=zMY hy;simp only at this;simp only [qd,List.not_mem_nil,or_false] at hy;rcases hy with rfl | rfl
   ·exact ih _ hb (by simp at hn; omega)
   ·exact ih _ hc (by simp at hn; omega)
  | del b hb _ _ _=>
   refine ⟨⟨by simp,by simp,by show (ByteArray.mk #[]).size<=_; decide⟩,λy hy=> ?_,λw hw=>(by cases hw)⟩
   have:=zMY hy;simp only at this;simp only [qd,List.not_mem_nil,or_false] at hy;subst hy;exact ih _ hb (by simp at hn; omega)
  | abs b hb _ _=>
   refine ⟨⟨by simp,by simp,by show (ByteArray.mk #[]).size<=_; decide⟩,λy hy=> ?_,λw hw=>(by cases hw)⟩
   have:=zMY hy;simp only at this;simp only [qd,List.not_mem_nil,or_false] at hy;subst hy;exact ih _ hb (by simp at hn; omega)
  | tst fn l o b hl hi hs hf=>
   obtain ⟨_,hb,hit⟩:=ztC hf;refine ⟨⟨by simp,by simp only at h3 ⊢; omega,by have:=zvx hb; simp only; omega⟩,λy hy=>(by cases hy),λw hw=>⟨by have:=zvx (hit w hw).1; omega, ?_⟩⟩
   have:=z4z hw;simp only at this;exact ih _ (hi w hw).1 (by simp at hn; omega)
theorem zfk {m:Nat} {a:yB} (h:zbr m a=true):zo 9 a/\zM a<=4096/\a.length<=512:=by
 cases m with
 | zero=>cases h
 | succ m=>
 have hw:=zvI (zGt h);exact ⟨(zX5 _ a h).mono (by omega),hw.2.2.1,hw.1⟩
theorem z06 {d m m':Nat} {a:yB} (h:zo d a) (hd:d<=100) (h1:d<=m) (h2:d<=m') (hs:zM a<=4611686018427387904):zbr m a=zbr m' a:=by
 have e1:=(zLH 1000).1 d m a h (by omega) h1 hd hs
 have e2:=(zLH 1000).1 d m' a h (by omega) h2 hd hs
 rw [e1] at e2;exact (Prod.mk.injEq _ _ _ _ ▸ e2).2
theorem z26 {m:Nat} {a:yB} (h:zbr m a=true) (hm:9<=m):zR a=true:=by
 obtain ⟨h1,h2,h3⟩:=zfk h;rw [<- h]; exact z06 h1 (by omega) (by omega) hm (by omega)
theorem zXn {m:Nat} {a:yB} (h:zR a=true) (hm:9<=m):zbr m a=true:=by
 obtain ⟨h1,h2,h3⟩:=zfk h;rw [<- h]; exact z06 h1 (by omega) hm (by omega) (by omega)
theorem VA.imp {V V':yB->Bool} (hV:∀ a,V a=true->V' a=true) {x:At} (h:VA V x):VA V' x:=by
 cases h with
 | var r h=>exact .var r h
 | mon a b ha hb ha0 hb0 h=>exact .mon a b (hV a ha) (hV b hb) ha0 hb0 h
 | del a ha ha0 h h'=>exact .del a (hV a ha) ha0 h h'
 | abs a ha ha0 h=>exact .abs a (hV a ha) ha0 h
 | tst f l o b hl hi hs hf=>exact .tst f l o b hl (λw hw=>⟨hV _ (hi w hw).1,(hi w hw).2⟩) hs hf
def zpw (x:At):Bool:=zef zR x
theorem z8c {m:Nat} (hm:9<=m):zef (zbr m)=zpw:=by
 funext x
 rw [Bool.eq_iff_iff];unfold zpw;rw [zdz,zdz];exact ⟨VA.imp λa h=>z26 h hm,VA.imp λa h=>zXn h hm⟩
theorem zX8 (a:yB):zR a=zxp zpw a:=by
 show zxp (zef (zbr 99)) a=_;rw [z8c (by omega)]
theorem zW6 {τ:Type} [Inhabited τ] {l:List τ} {i:Nat} (h:i<l.length):l.set i (l.getD i default)=l:=by
 rw [List.getD_eq_getElem?_getD,List.getElem?_eq_getElem h]; simp
section
variable (g:yB->Bool×yB) (gx:At->Bool×At)
theorem zbed (t8:yB) (t9 t10:Int) (out:yB) (t:Term) (l:yC) (hl:l.length<=1000000) (hg:∀ f∈l,gx f.At=(true,f.At)) (n:Nat) (hn:l.length<n):
  zAX gx n t8 t9 t10 l.length 0 out t l=(true,(t8,t9,t10,out,t,l)):=by
 have:=zcA (W:=ztW gx) (z:=default) l.length (λi=>((),(),(),t8,t9,t10,(l.length:Int),(i:Int),())) (λ_=>(out,t,l,())) (λ_=>true) default (t8,t9,t10,out,t,l)
  (λi hi H K D=>by
   show (zkf gx t8 t9 t10 l.length i out t l).ev H K D=_;unfold zkf;simp only [At.eta,Wy.ev_i,Wy.ev_k,Wy.ev_h,Wy.ev_bn,Wy.ev_d,tT,hi,hg _ (zl hi)];rw [zB (by omega)]
   have:(l.set i (⟨(l.getD i default).At,(l.getD i default).Exp⟩:Fc))=l:=zW6 hi;rw [this])
  (λH K D=>by
   show (zkf gx t8 t9 t10 l.length l.length out t l).ev H K D=_;unfold zkf;simp only [Wy.ev_i,Wy.ev_k,tT,Nat.lt_irrefl]) n hn
 rw [show zeb (λ_=>true) l.length 0=true from zdB.2 λ_ _ _=>rfl] at this
 exact this
theorem zbei (a:yB) (hl:a.length<=1000000) (hg:∀ t∈a,t.Fs.length<=1000000/\∀ f∈t.Fs,gx f.At=(true,f.At)) (n:Nat) (hn:a.length<n):
  zAY gx n a a.length 0 []=(true,a):=by
 have hreach:zG=70368744177664:=rfl
 have:=zcA (W:=ztZ gx) (z:=default) a.length (λi=>((),a,(a.length:Int),(i:Int),())) (λi=>(a.take i,())) (λ_=>true) default a
  (λi hi H K D=>by
   show (zj3 gx a a.length i (a.take i)).ev H K D=_;unfold zj3 zfu;obtain ⟨h1,h2⟩:=hg _ (zl hi);have hb:decide ((a.getD i default).Fs.length*128<=zG)=true:=by simp only [qe]; omega
   simp only [Wy.ev_i,Wy.ev_k,Wy.ev_h,Wy.ev_bn,Wy.ev_d,tT,hi,hb];rw [zbed gx a a.length i (a.take i) _ _ h1 h2 _ (by omega)]
   have hb2:decide (((a.take i).length+1)*32<=zG)=true:=by simp only [qe,List.length_take]; omega
   simp only [cond_true,List.length_singleton,hb2];rw [zB (by omega),zha hi])
  (λH K D=>by
   show (zj3 gx a a.length a.length (a.take a.length)).ev H K D=_;unfold zj3;simp only [Wy.ev_i,Wy.ev_k,tT,Nat.lt_irrefl,List.take_length]) n hn
 rw [show zeb (λ_=>true) a.length 0=true from zdB.2 λ_ _ _=>rfl] at this
 exact this
end
end Go.Proofs.YtoknknbmfmddbaaGreatDoor
end
