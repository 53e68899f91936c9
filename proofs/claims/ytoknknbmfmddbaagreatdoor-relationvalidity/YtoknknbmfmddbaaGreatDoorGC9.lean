/- Texts of this claim, joined (the program, its functions in plain words, and what they compute). -/
import Derived.Test.YtoknknbmfmddbaaGreatDoorGC8
set_option autoImplicit false
set_option linter.unusedVariables false
set_option linter.unusedSectionVars false
set_option linter.unusedSimpArgs false
set_option maxRecDepth 1000000
set_option maxHeartbeats 0
/- Sorted lists whose like elements come in the same order are equal; the stable sort is the insertion of one after the other. -/
noncomputable section
namespace Go.Proofs.YtoknknbmfmddbaaGreatDoor
open Go Go.Ab
section
variable {U:Row->Prop} (h:OW U)
include h
end
section
variable {ρ:Type} (c:ρ->ρ->Int) (add:ρ->ρ->Option ρ)
structure MO (V:ρ->Prop):Prop where
 anti:∀ x y,V x->V y->(c x y<0↔0<c y x)
 trans:∀ x y z,V x->V y->V z->c x y<=0->c y z<=0->c x z<=0
 key:∀ x y z,V x->V y->add x y=some z->V z/\∀ w,V w->(c z w=c x w/\c w z=c w x)
variable {c add} {V:ρ->Prop} (h:MO c add V)
include h
theorem MO.zero {x y:ρ} (hx:V x) (hy:V y):c x y=0↔c y x=0:=by
 have h1:=h.anti x y hx hy;have h2:=h.anti y x hy hx;omega
end
end Go.Proofs.YtoknknbmfmddbaaGreatDoor
/- Relations: values and rows compared, columns, fitting rows: the program and the reference. -/
set_option maxRecDepth 100000
namespace Go.Proofs.YtoknknbmfmddbaaGreatDoor
open Go Go.Ab
def z4F (a b:Value):Int:=zbF (trV a) (trV b)
theorem ref01_Compare_eq' (a b:Value):ziE a b=(true,z4F a b):=zzk a b
theorem zZ5 (l:yG) (m:Int) (hl:l.length<=z6):∀ (n i:Nat),l.length<i+n->i<=l.length->∃ r,zDk n l m i=(true,r)/\(r=.inl false\/(r=.inr (l,m)/\∀ x∈l.drop i,x.Text.size<=300))
 | 0,i,h,h2=>by omega
 | n+1,i,h,h2=>by
  show ∃ r,(zDm l m i).ev (λx y=>zDk n x.1 x.2.1 x.2.2.1) (λr=>(true,r)) (false,.inl default)=(true,r)/\_
  unfold zDm;by_cases hi:i<l.length
  ·have hw:i<4611686018427387904:=by
    have:z6<4611686018427387904:=by decide
    omega
   have hs:decide (((l.getD i default).Text.size:Int)>(300:Int))=decide ((l.getD i default).Text.size>300):=ziv _ 300;simp only [Wy.ev_i,Wy.ev_k,Wy.ev_h,Wy.ev_bn,Wy.ev_d,tT,hi];rw [hs];by_cases h3:(l.getD i default).Text.size>300
   ·rw [decide_eq_true h3];exact ⟨_,rfl,.inl rfl⟩
   ·rw [decide_eq_false h3,cond_false,zX hw];obtain ⟨r,h4,h5⟩:=zZ5 l m hl n (i+1) (by omega) (by omega)
    refine ⟨r,h4, ?_⟩;rcases h5 with h5 | ⟨h5,h6⟩
    ·exact .inl h5
    ·refine .inr ⟨h5,λx hx=> ?_⟩
     rw [zbH hi] at hx;rcases qd.1 hx with rfl | hx
     ·omega
     ·exact h6 x hx
  ·simp only [Wy.ev_i,Wy.ev_k,Wy.ev_h,Wy.ev_bn,Wy.ev_d,tT,hi];exact ⟨_,rfl,.inr ⟨rfl,λx hx=>by rw [zdn hi] at hx; cases hx⟩⟩
theorem z9w (l:yG) (m:Nat) (hl:l.length<=z6):∃ b,zuV l m=(true,b)/\(b=true->l.length<=m/\∀ x∈l,x.Text.size<=300):=by
 unfold zuV zP8;obtain ⟨r,h1,h2⟩:=zZ5 l m hl (l.length+(m:Int).toNat +Int.toNat (0:Int)+(1:Nat)) 0 (by omega) (by omega)
 rw [show ((0:Nat):Int)=(0:Int) from rfl] at h1
 rw [Wy.fin_bn,h1];rcases h2 with rfl | ⟨rfl,h2⟩
 ·exact ⟨false,rfl,λh=>by cases h⟩
 ·refine ⟨decide (l.length<=m), ?_,λh=>⟨of_decide_eq_true h,h2⟩⟩
  show (true,decide (Int.ofNat l.length<=(m:Int)))=_;rw [show decide (Int.ofNat l.length<=(m:Int))=decide (l.length<=m) from zsH _ _]
def zI9 (c:Column):Bool:=decide (0<=c.Type_)&&decide (c.Type_<=2)
def zHg (l:yH):Bool:=decide (l.length<=16)&&l.all zI9
def zDz (k:Int) (b:Value):Bool:=zh6 b&&decide (b.Kind=k)
def zoT (l:yH) (row:yG):Bool:=decide (l.length=row.length)&&zdR (λi=>zDz (l.getD i default).Type_ (row.getD i default)) l.length 0
theorem zy3 (a b:Nat):decide (Int.ofNat a=Int.ofNat b)=decide (a=b):=by
 by_cases h:a=b
 ·rw [h]; simp
 ·rw [decide_eq_false h,decide_eq_false]; intro e; exact h (Int.ofNat.inj e)
theorem z2z (l:yH) (hl:l.length<=1000000):∀ (n i:Nat),l.length<i+n->i<=l.length->zIg n l i=(true,bif (l.drop i).all zI9 then .inr l else .inl false)
 | 0,i,h,h2=>by omega
 | n+1,i,h,h2=>by
  show (zyV l i).ev (zB zy0 (.inl default) n) (λr=>(true,r)) (false,.inl default)=_
  unfold zyV;by_cases hi:i<l.length
  ·simp only [Wy.ev_i,Wy.ev_k,Wy.ev_h,Wy.ev_bn,Wy.ev_d,tT,hi];rw [zbH hi,List.all_cons,zX (by omega)]
   have ih:=z2z l hl n (i+1) (by omega) (by omega)
   unfold zI9;by_cases h1:0<=(l.getD i default).Type_
   ·by_cases h2:(l.getD i default).Type_<=2
    ·rw [decide_eq_true h1,decide_eq_true h2,decide_eq_false (show ¬ (l.getD i default).Type_<0 by omega),decide_eq_false (show ¬ (l.getD i default).Type_>2 by omega)]
     exact ih
    ·rw [decide_eq_true h1,decide_eq_false h2,decide_eq_false (show ¬ (l.getD i default).Type_<0 by omega),decide_eq_true (show (l.getD i default).Type_>2 by omega)]
     rfl
   ·rw [decide_eq_false h1,decide_eq_true (show (l.getD i default).Type_<0 by omega)]
    rfl
  ·simp only [Wy.ev_i,Wy.ev_k,Wy.ev_h,Wy.ev_bn,Wy.ev_d,tT,hi,zdn hi];rfl
theorem zXB (l:yH) (hl:l.length<=1000000):zua l=(true,zHg l):=by
 have h:=z2z l hl (l.length+Int.toNat (0:Int)+(1:Nat)) 0 (by omega) (by omega)
 rw [show ((0:Nat):Int)=(0:Int) from rfl,List.drop_zero] at h
 unfold zua zKG zHg;rw [Wy.fin_bn,h,cond_true];cases l.all zI9 with
 | false=>rw [Bool.and_false]; rfl
 | true=>
  rw [Bool.and_true];show (true,decide (Int.ofNat l.length<=(16:Int)))=_;rw [show decide (Int.ofNat l.length<=(16:Int))=decide (l.length<=16) from zsH _ 16]
theorem zQj (l:yH) (row:yG) (hl:l.length<=1000000):zBe l row=(true,zoT l row):=by
 unfold zBe zTq zoT;rw [Wy.fin_i,zrA,zy3];by_cases he:l.length=row.length
 ·have key:=zcE (W:=zFw) (z:=.inl default) l.length (λi=>(l,row,(i:Int),())) (λ_=>()) (λi=>zDz (l.getD i default).Type_ (row.getD i default)) (.inl false) (.inr ()) (λi hi H K D=>by
    show (zuE l row i).ev H K D=_;unfold zuE;have hi':i<row.length:=by omega
    simp only [Wy.ev_i,Wy.ev_k,Wy.ev_h,Wy.ev_bn,Wy.ev_d,tT,hi,hi',zxh,zrA,zDz,zX (show i<4611686018427387904 by omega)]
    cases zh6 (row.getD i default) <;>cases decide ((row.getD i default).Kind=(l.getD i default).Type_) <;>rfl) (λH K D=>by
    show (zuE l row l.length).ev H K D=_;unfold zuE;simp only [Wy.ev_i,Wy.ev_k,Wy.ev_h,Wy.ev_bn,Wy.ev_d,tT,Nat.lt_irrefl]) (l.length+row.length+Int.toNat (0:Int)+(1:Nat)) (by omega)
  replace key:zQa (l.length+row.length+Int.toNat (0:Int)+(1:Nat)) l row 0=_:=key;rw [decide_eq_true he,Bool.not_true,cond_false,Wy.fin_bn,key];cases zdR (λi=>zDz (l.getD i default).Type_ (row.getD i default)) l.length 0 <;>rfl
 ·rw [decide_eq_false he]; rfl
theorem zbdt:zbV ⟨default,0⟩=(true,false):=by kernel_rfl
theorem zbdw:zbV ⟨default,1⟩=(true,false):=by kernel_rfl
theorem zbdr:zbV ⟨default,2⟩=(true,false):=by kernel_rfl
theorem zbdB (c:Column):zbV c=(true, !zI9 c):=by
 have hc:zbV c=zbV ⟨default,c.Type_⟩:=rfl;rw [hc];unfold zI9;generalize c.Type_=t;by_cases h0:t<0
 ·unfold zbV zmM zkU zy9;rw [Wy.fin_bn,Wy.fin_i,decide_eq_true h0,decide_eq_false (show ¬ 0<=t by omega)]
  show (true,((ByteArray.mk #[]).toList==(ByteArray.mk #[]).toList))=_;rw [zwR]; rfl
 ·by_cases h2:t>2
  ·unfold zbV zmM zkU zy9;rw [Wy.fin_bn,Wy.fin_i,Wy.fin_i,decide_eq_false h0,decide_eq_true h2,decide_eq_false (show ¬ t<=2 by omega),Bool.and_false]
   show (true,((ByteArray.mk #[]).toList==(ByteArray.mk #[]).toList))=_;rw [zwR]; rfl
  ·rw [decide_eq_true (show 0<=t by omega),decide_eq_true (show t<=2 by omega)]
   have:t=0\/t=1\/t=2:=by omega
   rcases this with rfl | rfl | rfl
   ·exact zbdt
   ·exact zbdw
   ·exact zbdr
theorem zYW (l:yH) (hl:l.length<=1000000):zgF l=(true,zHg l):=by
 have hc:zcm l=(true, !l.all zI9):=by
  unfold zcm zhs;have:zdp l=IG (λ(_:Unit) x=>zbV x) (l.length+(Int.ofNat l.length).toNat +Int.toNat (0:Int)+(1000:Nat)) () l:=rfl
  have e:(!l.all zI9)=l.any λc=> !zI9 c:=by simp [List.all_eq_not_any_not]
  rw [e];exact zn9 (this.trans (zP2 _ _ _ _ _ (by omega) (λx _=>zbdB x) (by omega)))
 unfold zgF zxz zHg;have el:decide (Int.ofNat l.length<=(16:Int))=decide (l.length<=16):=zsH _ 16;rw [Wy.fin_i,Wy.fin_bn,hc,el];cases decide (l.length<=16) <;>cases l.all zI9 <;>rfl
def zy5 (l:yH) (row:yG) (k:Nat):List pair:=(List.range k).map λi=>pair.mk (l.getD i default) (row.getD i default)
theorem z2G (l:yH) (row:yG) (k:Nat):zy5 l row (k+1)=zy5 l row k++[pair.mk (l.getD k default) (row.getD k default)]:=by
 unfold zy5; rw [List.range_succ,List.map_append]; rfl
theorem zWP (l:yH) (row:yG) (k:Nat):(zy5 l row k).length=k:=by simp [zy5]
theorem z5o (l:yH) (row:yG) (he:l.length=row.length) (hl:l.length<=1000000):∀ (n i:Nat),row.length<i+n->i<=row.length->zBi n l row row.length i (zy5 l row i)=(true,zy5 l row row.length)
 | 0,i,h,h2=>by omega
 | n+1,i,h,h2=>by
  show (zA8 l row row.length i (zy5 l row i)).ev (zB zBU default n) (λr=>(true,r)) (false,default)=_
  unfold zA8;by_cases hi:i<row.length
  ·have hi':i<l.length:=by omega
   simp only [Wy.ev_i,Wy.ev_k,Wy.ev_h,Wy.ev_bn,Wy.ev_d,tT,hi,hi'];rw [decide_eq_true (show ((zy5 l row i).length+[pair.mk (l.getD i default) (row.getD i default)].length)*56<=zbh from z9C (by rw [zWP]; simp; omega) (by omega)),cond_true,zX (by omega), <- z2G]
   exact z5o l row he hl n (i+1) (by omega) (by omega)
  ·have:i=row.length:=by omega
   subst this;simp only [Wy.ev_i,Wy.ev_k,Wy.ev_h,Wy.ev_bn,Wy.ev_d,tT,Nat.lt_irrefl]
theorem z4W (l:yH) (row:yG) (p:pair->Bool):∀ k,(zy5 l row k).all p=zdR (λi=>p (pair.mk (l.getD i default) (row.getD i default))) k 0
 | 0=>rfl
 | k+1=>by
  rw [z2G,List.all_append,z4W l row p k,zSt,Nat.zero_add];simp
theorem z6H (l:yH) (row:yG) (hl:l.length<=1000000):zqk l row=(true,zoT l row):=by
 unfold zqk zKh zoT;rw [Wy.fin_i,ziP,zy3];by_cases he:l.length=row.length
 ·have hz:zwl l row=(true,zy5 l row row.length):=by
   unfold zwl zNr;have key:∀ n,row.length<n->zBi n l row (Int.ofNat row.length) 0 []=(true,zy5 l row row.length):=λn hn=>z5o l row he hl n 0 (by omega) (by omega)
   rw [Wy.fin_bn,key _ (by omega)]; rfl
  have hc:zbY (zy5 l row row.length)=(true, !(zy5 l row row.length).all λp=>zDz p.c.Type_ p.v):=by
   generalize hq:zy5 l row row.length=q;have hql:q.length<=1000000:=by rw [<- hq,zWP]; omega
   unfold zbY zfF;have:zcJ q=IG (λ(_:Unit) x=>zkS x) (q.length+(Int.ofNat q.length).toNat +Int.toNat (0:Int)+(1000:Nat)) () q:=rfl
   have e:(!q.all λp=>zDz p.c.Type_ p.v)=q.any λp=> !zDz p.c.Type_ p.v:=by simp [List.all_eq_not_any_not]
   rw [e]
   exact zn9 (this.trans (zP2 _ _ _ _ _ (by omega) (λx _=>by
    show zkS x=_;unfold zkS zD5 zDz;simp only [Wy.fin_i,Wy.fin_k,Wy.fin_bn,zxn,cond_true,zrA];cases zh6 x.v <;>cases decide (x.v.Kind=x.c.Type_) <;>rfl) (by omega)))
  rw [decide_eq_true he,cond_true,Wy.fin_bn,hz,cond_true,Wy.fin_bn,hc,z4W,he];cases zdR (λi=>zDz (l.getD i default).Type_ (row.getD i default)) row.length 0 <;>rfl
 ·rw [decide_eq_false he]; rfl
def zsf (l:yG):List TT:=l.map trV
theorem z4B:∀ {a b:yG},zsf a=zsf b->a=b
 | [],[],_=>rfl
 | [],_::_,h=>by cases h
 | _::_,[],h=>by cases h
 | x::a,y::b,h=>by
  have h':trV x::zsf a=trV y::zsf b:=h;injection h' with h1 h2
  rw [z1e h1,z4B h2]
def zqV (a b:yG):Int:=zbF (.l (zsf a)) (.l (zsf b))
theorem z4w (a b:yG):zqV a b=zbo (zsf a) (zsf b):=by unfold zqV; rw [zbF]
theorem z7T (a b:yG):zqV b a= - zqV a b:=zwi _ _
theorem zPx (a b:yG):zqV a b=0↔a=b:=⟨λh=>z4B (TT.l.inj (zzx _ _ h)),λh=>by subst h; exact zSo _⟩
theorem z5C {x y z:yG} (h1:zqV x y<=0) (h2:zqV y z<=0):zqV x z<=0:=zON _ _ _ h1 h2
theorem zOW (a b:yG) (ha:a.length<=1000000):znf a b=(true,zqV a b):=by
 unfold znf zCk;have e:zb3=CF ziF:=rfl;rw [e,Wy.fin_bn,zMI trV ziF a b ha (λx _ y _=>zzr x y),z4w]; rfl
theorem zCt (x y:Row) (hx:x.Values.length<=1000000):zcO x y=(true,zqV x.Values y.Values):=by
 unfold zcO zDV;rw [Wy.fin_bn,zOW _ _ hx]; rfl
theorem z5d (a b:yG) (ha:a.length<=1000000):∀ (n i:Nat),a.length<i+n->i<=a.length->i<=b.length->
  ∃ r,ztO n a b i=(true,r)/\((r=.inr (a,b)/\zbo (zsf (a.drop i)) (zsf (b.drop i))=if a.length=b.length then 0 else if a.length<b.length then -1 else 1)\/r=.inl (zbo (zsf (a.drop i)) (zsf (b.drop i))))
 | 0,i,h,h2,h3=>by omega
 | n+1,i,h,h2,h3=>by
  show ∃ r,(ztp a b i).ev (λx y=>ztO n x.1 x.2.1 x.2.2.1) (λr=>(true,r)) (false,.inl default)=(true,r)/\_
  unfold ztp;by_cases hi:i<a.length
  ·by_cases hj:i<b.length
   ·simp only [Wy.ev_i,Wy.ev_k,Wy.ev_h,Wy.ev_bn,Wy.ev_d,tT,hi,hj,ref01_Compare_eq'];rw [zbH hi,zbH hj]
    have ec:zbo (zsf (a.getD i default::a.drop (i+1))) (zsf (b.getD i default::b.drop (i+1)))=if z4F (a.getD i default) (b.getD i default)=0 then zbo (zsf (a.drop (i+1))) (zsf (b.drop (i+1))) else z4F (a.getD i default) (b.getD i default):=by
     unfold zsf z4F; rw [List.map_cons,List.map_cons,zbo]
    rw [ec,zrA,zX (by omega)]
    by_cases e:z4F (a.getD i default) (b.getD i default)=0
    ·rw [if_pos e,decide_eq_true e,Bool.not_true,cond_false];exact z5d a b ha n (i+1) (by omega) (by omega) (by omega)
    ·rw [if_neg e,decide_eq_false e,Bool.not_false,cond_true];exact ⟨_,rfl,.inr rfl⟩
   ·simp only [Wy.ev_i,Wy.ev_k,Wy.ev_h,Wy.ev_bn,Wy.ev_d,tT,hi,hj];refine ⟨_,rfl,.inl ⟨rfl, ?_⟩⟩;rw [zbH hi,zdn hj,if_neg (by omega),if_neg (by omega)]
    unfold zsf; rw [List.map_cons,List.map_nil,zbo]
  ·simp only [Wy.ev_i,Wy.ev_k,Wy.ev_h,Wy.ev_bn,Wy.ev_d,tT,hi];refine ⟨_,rfl,.inl ⟨rfl, ?_⟩⟩;rw [zdn hi];by_cases hj:i<b.length
   ·rw [zbH hj,if_neg (by omega),if_pos (by omega)]
    unfold zsf; rw [List.map_cons,List.map_nil,zbo]
   ·rw [zdn hj,if_pos (by omega)]
    unfold zsf; rw [List.map_nil,zbo]
theorem zAW (a b:yG) (ha:a.length<=1000000):zj0 a b=(true,zqV a b):=by
 obtain ⟨r,h1,h2⟩:=z5d a b ha (a.length+b.length+Int.toNat (0:Int)+(1:Nat)) 0 (by omega) (by omega) (by omega)
 rw [show ((0:Nat):Int)=(0:Int) from rfl] at h1
 rw [List.drop_zero,List.drop_zero, <- z4w] at h2;unfold zj0 zCu;rw [Wy.fin_bn,h1,cond_true];have hs:∀ b:Bool,zq9 b=(true,bif b then -1 else 1):=λb=>by cases b <;>rfl
 rcases h2 with ⟨rfl,h2⟩ | rfl
 ·have hb:(Int.ofNat a.length==Int.ofNat b.length)=decide (a.length=b.length):=by rw [ziP,zy3]
  have hl':decide (Int.ofNat a.length<Int.ofNat b.length)=decide (a.length<b.length):=by simp
  simp only [Wy.fin_i,Wy.fin_k,Wy.fin_bn,isL,getR,cond_false,hb,hs,cond_true];rw [h2];by_cases e:a.length=b.length
  ·rw [decide_eq_true e,if_pos e]; rfl
  ·rw [decide_eq_false e,if_neg e,cond_false];by_cases e2:a.length<b.length
   ·rw [if_pos e2];show (true,bif decide (Int.ofNat a.length<Int.ofNat b.length) then (-1:Int) else 1)=_
    rw [hl',decide_eq_true e2]; rfl
   ·rw [if_neg e2];show (true,bif decide (Int.ofNat a.length<Int.ofNat b.length) then (-1:Int) else 1)=_
    rw [hl',decide_eq_false e2]; rfl
 ·rfl
theorem z3v (a b:yG) (ha:a.length<=1000000):zBG a b=(true,decide (a=b)):=by
 unfold zBG zTF;rw [Wy.fin_bn,zAW a b ha,cond_true,Wy.fin_k,ziP];congr 1;rw [decide_eq_decide]; exact zPx a b
end Go.Proofs.YtoknknbmfmddbaaGreatDoor
/- Sums and products of zDI lists: two ways of computing them. -/
namespace Go.Proofs.YtoknknbmfmddbaaGreatDoor
open Go Go.Ab
def zUK (a b:Int):Int:=if 1152921504606846976<a+b then 1152921504606846976 else a+b
def cT (x y:Term):Int:=zbo (zbT x.Fs) (zbT y.Fs)
theorem z0B {x y:Term} (h:cT x y=0):x.Fs=y.Fs:=zFe _ _ (zHr _ _ h)
theorem zMv {x y:Term} (h:x.Fs=y.Fs):cT x y=0:=by unfold cT; rw [h]; exact zUe _
def zoN (t:Term):yB->yB
 | []=>[t]
 | x::r=>if cT x t<0 then x::zoN t r else if cT x t=0 then ⟨zUK x.Cf t.Cf,t.Fs⟩::r else t::x::r
abbrev Srs (l:yB):Prop:=l.Pairwise λx y=>cT x y<0
abbrev Dst (l:yB):Prop:=l.Pairwise λx y=>x.Fs≠y.Fs
theorem Srs.dst {l:yB} (h:Srs l):Dst l:=h.imp λ{x y} hxy e=>by rw [zMv e] at hxy; omega
def SM (l:yB) (t y:Term):Prop:=(y∈l/\y.Fs≠t.Fs)\/(y.Fs=t.Fs/\((∃ x∈l,x.Fs=t.Fs/\y.Cf=zUK x.Cf t.Cf)\/((∀ x∈l,x.Fs≠t.Fs)/\y.Cf=t.Cf)))
theorem z6w {x y:Term} (h1:x.Cf=y.Cf) (h2:x.Fs=y.Fs):x=y:=by cases x; cases y; simp_all
theorem zP0 {x y z:Term} (h1:cT x y<0) (h2:cT y z<0):cT x z<0:=z3k h1 h2
theorem z6E (x y:Term):cT y x= - cT x y:=zEo _ _
theorem z63 {x t y:Term} {r:yB} (hx:x.Fs≠t.Fs) (hr:∀ z∈r,x.Fs≠z.Fs):SM (x::r) t y↔y=x\/SM r t y:=by
 unfold SM;constructor
 ·rintro (⟨h1,h2⟩ | ⟨h1,⟨z,hz,h2,h3⟩ | ⟨h2,h3⟩⟩)
  ·rcases qd.1 h1 with rfl | h1
   ·exact .inl rfl
   ·exact .inr (.inl ⟨h1,h2⟩)
  ·rcases qd.1 hz with rfl | hz
   ·exact absurd h2 hx
   ·exact .inr (.inr ⟨h1,.inl ⟨z,hz,h2,h3⟩⟩)
  ·exact .inr (.inr ⟨h1,.inr ⟨λz hz=>h2 z (by simp [hz]),h3⟩⟩)
 ·rintro (rfl | ⟨h1,h2⟩ | ⟨h1,⟨z,hz,h2,h3⟩ | ⟨h2,h3⟩⟩)
  ·exact .inl ⟨by simp,hx⟩
  ·exact .inl ⟨by simp [h1],h2⟩
  ·exact .inr ⟨h1,.inl ⟨z,by simp [hz],h2,h3⟩⟩
  ·exact .inr ⟨h1,.inr ⟨λz hz=>by
    rcases qd.1 hz with rfl | hz
    ·exact hx
    ·exact h2 z hz,h3⟩⟩
theorem z6e {t y:Term} {l:yB} (h:∀ z∈l,z.Fs≠t.Fs):SM l t y↔y=t\/y∈l:=by
 unfold SM;constructor
 ·rintro (⟨h1,h2⟩ | ⟨h1,⟨z,hz,h2,h3⟩ | ⟨h2,h3⟩⟩)
  ·exact .inr h1
  ·exact absurd h2 (h z hz)
  ·exact .inl (z6w h3 h1)
 ·rintro (rfl | h1)
  ·exact .inr ⟨rfl,.inr ⟨h,rfl⟩⟩
  ·exact .inl ⟨h1,h y h1⟩
theorem zbc9 {x t y:Term} {r:yB} (hx:x.Fs=t.Fs) (hr:∀ z∈r,z.Fs≠t.Fs):SM (x::r) t y↔y=⟨zUK x.Cf t.Cf,t.Fs⟩\/y∈r:=by
 unfold SM;constructor
 ·rintro (⟨h1,h2⟩ | ⟨h1,⟨z,hz,h2,h3⟩ | ⟨h2,h3⟩⟩)
  ·rcases qd.1 h1 with rfl | h1
   ·exact absurd hx h2
   ·exact .inr h1
  ·rcases qd.1 hz with rfl | hz
   ·exact .inl (z6w h3 h1)
   ·exact absurd h2 (hr z hz)
  ·exact absurd hx (h2 x (by simp))
 ·rintro (rfl | h1)
  ·exact .inr ⟨rfl,.inl ⟨x,by simp,hx,rfl⟩⟩
  ·exact .inl ⟨by simp [h1],hr y h1⟩
theorem zUB {t y:Term}:∀ {l:yB},Srs l->(y∈zoN t l↔SM l t y)
 | [],_=>by rw [z6e (by simp)]; simp [zoN]
 | x::r,h=>by
  have hc:=qi.1 h;have hd:=qi.1 h.dst;unfold zoN;by_cases h1:cT x t<0
  ·rw [if_pos h1,qd,z63 (λe=>by rw [zMv e] at h1; omega) hd.1,zUB hc.2]
  ·rw [if_neg h1];by_cases h2:cT x t=0
   ·rw [if_pos h2,List.mem_cons,zbc9 (z0B h2) λz hz e=>by
     have:=hc.1 z hz; rw [zMv ((z0B h2).trans e.symm)] at this; omega]
   ·rw [if_neg h2,z6e λz hz e=>by
     have a:=z6E x t;rcases qd.1 hz with rfl | hz
     ·exact h2 (zMv e)
     ·have b:=zP0 (show cT t x<0 by omega) (hc.1 z hz)
      rw [zMv e.symm] at b; omega]
    rw [qd]
theorem zUD {t:Term}:∀ {l:yB},Srs l->Srs (zoN t l)
 | [],_=>by simp [zoN]
 | x::r,h=>by
  have hc:=qi.1 h;unfold zoN;by_cases h1:cT x t<0
  ·rw [if_pos h1];refine qi.2 ⟨λz hz=> ?_,zUD hc.2⟩
   rcases (zUB hc.2).1 hz with ⟨h2,_⟩ | ⟨h2,_⟩
   ·exact hc.1 z h2
   ·have:cT x z=cT x t:=by unfold cT; rw [h2]
    rw [this]; exact h1
  ·rw [if_neg h1];by_cases h2:cT x t=0
   ·rw [if_pos h2];refine qi.2 ⟨λz hz=> ?_,hc.2⟩
    have:=hc.1 z hz;unfold cT at this ⊢;rw [<- z0B h2]; exact this
   ·rw [if_neg h2];have a:=z6E x t;refine qi.2 ⟨λz hz=> ?_,h⟩
    rcases qd.1 hz with rfl | hz
    ·omega
    ·exact zP0 (show cT t x<0 by omega) (hc.1 z hz)
def zvu (a b:yB):yB:=b.foldl (λa t=>zoN t a) a
theorem z6N:∀ (b a:yB),Srs a->Srs (zvu a b)
 | [],_,h=>h
 | t::r,a,h=>z6N r (zoN t a) (zUD h)
theorem z5l {t:Term}:∀ {l:yB},(∀ x∈l,cT x t<0)->zoN t l=l++[t]
 | [],_=>rfl
 | x::r,h=>by
  unfold zoN;rw [if_pos (h x (by simp)),z5l λy hy=>h y (by simp [hy])]; rfl
theorem z6k:∀ (r l:yB),Srs (l++r)->zvu l r=l++r
 | [],l,_=>by simp [zvu]
 | t::r,l,h=>by
  have e:zvu l (t::r)=zvu (zoN t l) r:=rfl;have hp:=List.pairwise_append.1 h;rw [e,z5l λx hx=>hp.2.2 x hx t (by simp),z6k r (l++[t]) (by simpa using h)]
  simp
theorem sum_nil {a:yB} (h:Srs a):zvu [] a=a:=z6k a [] h
theorem zMi {y:Term}:∀ (b a:yB),Srs a->y∈zvu a b->∃ x,(x∈a\/x∈b)/\y.Fs=x.Fs
 | [],a,_,h=>⟨y,.inl h,rfl⟩
 | t::r,a,hs,h=>by
  obtain ⟨x,hx,e⟩:=zMi r (zoN t a) (zUD hs) h;rcases hx with hx | hx
  ·rcases (zUB hs).1 hx with ⟨h1,_⟩ | ⟨h1,_⟩
   ·exact ⟨x,.inl h1,e⟩
   ·exact ⟨t,.inr (by simp),e.trans h1⟩
  ·exact ⟨x,.inr (by simp [hx]),e⟩
theorem z8M {a b:Int} (ha:1<=a) (hb:1<=b):1<=zUK a b/\zUK a b<=1152921504606846976:=by
 unfold zUK;split
 ·omega
 ·omega
def cOK (t:Term):Prop:=1<=t.Cf/\t.Cf<=1152921504606846976
theorem z68 {t:Term} (ht:cOK t):∀ {l:yB},(∀ x∈l,cOK x)->∀ x∈zoN t l,cOK x
 | [],_,x,hx=>by simp only [zoN,qh] at hx; subst hx; exact ht
 | y::r,h,x,hx=>by
  unfold zoN at hx;split at hx
  ·rcases qd.1 hx with rfl | hx
   ·exact h _ (by simp)
   ·exact z68 ht (λz hz=>h z (by simp [hz])) x hx
  ·split at hx
   ·rcases qd.1 hx with rfl | hx
    ·exact z8M (h y (by simp)).1 ht.1
    ·exact h x (by simp [hx])
   ·rcases qd.1 hx with rfl | hx
    ·exact ht
    ·exact h x hx
theorem zbaG:∀ (b:yB) {a:yB},(∀ x∈a,cOK x)->(∀ x∈b,cOK x)->∀ x∈zvu a b,cOK x
 | [],a,ha,_=>ha
 | t::r,a,ha,hb=>zbaG r (z68 (hb t (by simp)) ha) λx hx=>hb x (by simp [hx])
theorem z6c {t:Term}:∀ (l:yB),(zoN t l).length<=l.length+1
 | []=>by simp [zoN]
 | x::r=>by
  have:=z6c (t:=t) r;unfold zoN;split
  ·simp only [qf]; omega
  ·split <;>simp
theorem z1f:∀ (b a:yB),(zvu a b).length<=a.length+b.length
 | [],a=>by simp [zvu]
 | t::r,a=>by
  have h1:=z1f r (zoN t a);have h2:=z6c (t:=t) a;show (zvu (zoN t a) r).length<=_;simp only [qf]; omega
def cF (x y:Fc):Int:=zbF (zeC x.At) (zeC y.At)
theorem zbbl {x y:Fc} (h:cF x y=0):x.At=y.At:=zZY _ _ (zzx _ _ h)
theorem zbbs (x y:Fc):cF y x= - cF x y:=zwi _ _
theorem z3s {a b c:TT} (h1:zbF a b<0) (h2:zbF b c<0):zbF a c<0:=by
 have h:=zON a b c (by omega) (by omega)
 by_cases e:zbF a c=0
 ·have e':=zzx a c e;subst e';have:=zwi a b;omega
 ·omega
theorem zOi {x y z:Fc} (h1:cF x y<0) (h2:cF y z<0):cF x z<0:=z3s h1 h2
abbrev Srf (l:yC):Prop:=l.Pairwise λx y=>cF x y<0
def zeR:yC->yC->yC
 | [],b=>b
 | x::a,[]=>x::a
 | x::a,y::b=>if cF x y<0 then x::zeR a (y::b) else if 0<cF x y then y::zeR (x::a) b else (if x.At.Kind=3\/x.At.Kind=4 then x else ⟨x.At,x.Exp+y.Exp⟩)::zeR a b
termination_by a b=>a.length+b.length
def eOK (f:Fc):Prop:=(0<=f.At.Kind/\f.At.Kind<=4)/\(f.At.Kind=3\/f.At.Kind=4->f.Exp=1)
theorem ztm {x:Fc}:∀ {a b:yC},x∈zeR a b->∃ y,(y∈a\/y∈b)/\x.At=y.At
 | [],b,h=>⟨x,.inr (by rwa [zeR] at h),rfl⟩
 | y::a,[],h=>⟨x,.inl (by rwa [zeR] at h),rfl⟩
 | y::a,z::b,h=>by
  rw [zeR] at h;split at h
  ·rcases qd.1 h with rfl | h
   ·exact ⟨x,.inl (by simp),rfl⟩
   ·obtain ⟨w,hw,e⟩:=ztm h;rcases hw with hw | hw
    ·exact ⟨w,.inl (by simp [hw]),e⟩
    ·exact ⟨w,.inr hw,e⟩
  ·split at h
   ·rcases qd.1 h with rfl | h
    ·exact ⟨x,.inr (by simp),rfl⟩
    ·obtain ⟨w,hw,e⟩:=ztm h;rcases hw with hw | hw
     ·exact ⟨w,.inl hw,e⟩
     ·exact ⟨w,.inr (by simp [hw]),e⟩
   ·rcases qd.1 h with rfl | h
    ·exact ⟨y,.inl (by simp),by split <;>rfl⟩
    ·obtain ⟨w,hw,e⟩:=ztm h;rcases hw with hw | hw
     ·exact ⟨w,.inl (by simp [hw]),e⟩
     ·exact ⟨w,.inr (by simp [hw]),e⟩
termination_by a b=>a.length+b.length
theorem zOK:∀ (a b:yC),(zeR a b).length<=a.length+b.length
 | [],b=>by rw [zeR]; simp
 | y::a,[]=>by rw [zeR]; simp
 | y::a,z::b=>by
  rw [zeR];split
  ·have:=zOK a (z::b); simp only [qf] at this ⊢; omega
  ·split
   ·have:=zOK (y::a) b; simp only [qf] at this ⊢; omega
   ·have:=zOK a b; simp only [qf] at this ⊢; omega
termination_by a b=>a.length+b.length
theorem zOh {x:Fc} {B:Int}:∀ {a b:yC},(∀ y∈a,1<=y.Exp/\y.Exp<=B)->(∀ y∈b,1<=y.Exp/\y.Exp<=B)->x∈zeR a b->1<=x.Exp/\x.Exp<=2*B
 | [],b,ha,hb,h=>by rw [zeR] at h; have:=hb x h; omega
 | y::a,[],ha,hb,h=>by rw [zeR] at h; have:=ha x h; omega
 | y::a,z::b,ha,hb,h=>by
  have hy:=ha y (by simp)
  have hz:=hb z (by simp)
  rw [zeR] at h;split at h
  ·rcases qd.1 h with rfl | h
   ·omega
   ·exact zOh (λw hw=>ha w (by simp [hw])) hb h
  ·split at h
   ·rcases qd.1 h with rfl | h
    ·omega
    ·exact zOh ha (λw hw=>hb w (by simp [hw])) h
   ·rcases qd.1 h with rfl | h
    ·split
     ·omega
     ·simp only; omega
    ·exact zOh (λw hw=>ha w (by simp [hw])) (λw hw=>hb w (by simp [hw])) h
termination_by a b=>a.length+b.length
def zZI (a b:Int):Int:=if Int.tdiv 1152921504606846976 b<a then 1152921504606846976 else a*b
def z7A (x y:Term):Term:=⟨zZI x.Cf y.Cf,zeR x.Fs y.Fs⟩
def zBH (a b:yB):yB:=a.flatMap λx=>b.map (z7A x)
def zZU (a b:yB):yB:=zvu [] (zBH a b)
theorem z6W {a b:Int} (ha:1<=a/\a<=1152921504606846976) (hb:1<=b/\b<=1152921504606846976):(1<=zZI a b/\zZI a b<=1152921504606846976)/\(¬ Int.tdiv 1152921504606846976 b<a->a*b<=1152921504606846976):=by
 have h1:¬ Int.tdiv 1152921504606846976 b<a->a*b<=1152921504606846976:=λh=>by
  rw [Int.tdiv_eq_ediv_of_nonneg (by omega)] at h
  have h2:a<=1152921504606846976 / b:=by omega
  exact (Int.le_ediv_iff_mul_le (by omega)).1 h2
 refine ⟨?_,h1⟩;unfold zZI;split
 ·omega
 ·rename_i h;refine ⟨?_,h1 h⟩;have:=Int.mul_le_mul ha.1 hb.1 (by omega) (by omega)
  omega
theorem z2a {t:Term} {a b:yB} (h:t∈zBH a b):∃ x∈a,∃ y∈b,t=z7A x y:=by
 obtain ⟨x,hx,ht⟩:=List.mem_flatMap.1 h;obtain ⟨y,hy,rfl⟩:=List.mem_map.1 ht;exact ⟨x,hx,y,hy,rfl⟩
theorem z8G (a b:yB):(zBH a b).length=a.length*b.length:=by
 unfold zBH;induction a with
 | nil=>simp
 | cons x r ih=>rw [List.flatMap_cons,qg,ih,List.length_map,qf,Nat.add_mul]; omega
section
variable (g:yB->Bool×yB)
end
def zLp (a:yB):yB×Int:=bif zkm a then (a,0) else ([],6)
def zke (x:At):yB:=[⟨1,[⟨x,1⟩]⟩]
theorem zTe {d:Nat} {x:At} (h:zd2 (zG d) x):zG (d+1) (zke x):=by
 refine ⟨by simp [zke],λt ht=> ?_⟩
 simp only [zke,qh] at ht;subst ht;refine ⟨by simp,λf hf=> ?_⟩
 simp only [qh] at hf;subst hf; exact h
theorem z3R (x:At):zP (zke x)=2+zeB x:=by
 rw [zke,zhh,zA2,zdQ,zoj];simp only [List.length_singleton]; omega
section
variable {α β ρ τ:Type} [Inhabited τ]
end
def z5x (w:Wd):Bool:=decide (0<w.Ann.length)
def zls (l:yD):yD:=znU zbp (l.filter z5x)
def z7C (op sign:Int):Bool:=bif op==5 then sign==0 else bif op==6 then sign != 0 else bif op==7 then decide (sign<0) else bif op==8 then decide (sign<=0) else bif op==9 then decide (sign>0) else decide (sign≥0)
def z1G (fn:Int) (l:yD) (op:Int) (b:Value):At:=⟨4,⟨0,0⟩,[],fn,l,op,b⟩
def zZ2 (fn:Int) (items:yD) (op:Int) (b:Value):yB×Int:=
 bif !(zBc fn items op b&&items.all λw=>zcx w.Ann) then ([],1) else
 bif decide (0<(zls items).length) then zLp (zke (z1G fn (zls items) op b)) else
 bif fn==0&&z7C op (zdK 0 b.Int) then ([⟨1,[]⟩],0) else ([],0)
theorem zHh {l:yD} {w:Wd} (h:w∈zls l):w∈l/\w.Ann≠[]:=by
 have:=(znX _ _).mem_iff.1 h;obtain ⟨h1,h2⟩:=List.mem_filter.1 this;refine ⟨h1,λe=> ?_⟩
 rw [z5x,e] at h2; simp at h2
theorem z0e (l:yD):(zls l).length=(l.filter z5x).length:=(znX _ _).length_eq
theorem zSN {B:Nat}:∀ l:yD,(∀ w∈l,zP w.Ann<=B)->zcQ l<=l.length*(B+1)
 | [],_=>by rw [zfQ]; simp
 | w::r,h=>by
  rw [zhi,qf];have h1:=h w (by simp)
  have h2:=zSN r λw hw=>h w (by simp [hw])
  rw [Nat.add_mul]; omega
theorem z9q {fn:Int} {l:yD} {op:Int} {b:Value} (hl:l.length<=1000000) (hf:zBc fn l op b=true) (hv:(l.all λw=>zcx w.Ann)=true):zG 10 (zke (z1G fn (zls l) op b))/\zP (zke (z1G fn (zls l) op b))<=4611686018427387904:=by
 obtain ⟨_,hb,hit⟩:=zqA hf;have hvv:∀ w∈l,zcx w.Ann=true:=λw hw=>List.all_eq_true.1 hv w hw
 have hlen:(zls l).length<=1000000:=by rw [z0e]; exact Nat.le_trans (List.length_filter_le _ _) hl
 constructor
 ·refine zTe ⟨⟨by simp [z1G],hlen,by have:=zqY hb; simp only [z1G]; omega⟩,λy hy=>(by cases hy),λw hw=> ?_⟩
  have hm:=(zHh hw).1;exact ⟨by have:=zqY (hit w hm).1; omega,(zen (hvv w hm)).1⟩
 ·rw [z3R,zgy];have h1:zcQ (zls l)<=(zls l).length*(4096+1):=zSN _ λw hw=>(zen (hvv w (zHh hw).1)).2.1
  show 2+(zer []+zcQ (zls l))<=_;rw [zhg];have:=Nat.mul_le_mul hlen (Nat.le_refl (4096+1));omega
end Go.Proofs.YtoknknbmfmddbaaGreatDoor
end
