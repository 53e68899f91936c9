/- Texts of this claim, joined (the program, its functions in plain words, and what they compute). -/
import Derived.Test.YtoknknbmfmddbaaGreatDoorGC11
set_option autoImplicit false
set_option linter.unusedVariables false
set_option linter.unusedSectionVars false
set_option linter.unusedSimpArgs false
set_option maxRecDepth 1000000
set_option maxHeartbeats 0
/- Division and products, sums and normal forms. -/
noncomputable section
namespace Go.Proofs.YtoknknbmfmddbaaGreatDoor
open Go Go.Ab
theorem zbdG (a b:yC):cL a b=zbo (zbT a) (zbT b):=by unfold cL; rw [zbF]
theorem PA.canon {a:yB} (h:PA a):Canon a:=⟨h.1.imp λ{x y} hxy=>by rw [zbdG]; exact hxy,λt ht=>(h.2 t ht).2.1⟩
def GP {α:Type} (P:α->Prop):Int⊕α->Prop
 | .inl _=>True
 | .inr a=>P a
theorem zA3 {α β:Type} {P:α->Prop} {Q:β->Prop} {x:Int⊕α} {k:α->Int⊕β} (hx:GP P x) (hk:∀ a,P a->GP Q (k a)):GP Q (sbd x k):=by
 cases x with
 | inl e=>exact trivial
 | inr a=>exact hk a hx
theorem zUH {P:yB->Prop} {r:yB×Int} (h:P r.1):GP P (opS r):=by
 unfold opS;split
 ·exact h
 ·exact trivial
theorem zyc {a:yB}:zb9 a↔∀ t∈a,∀ f∈t.Fs,zyi f.At:=by
 rw [zKx];exact ⟨λh t ht=>zyI.1 (h t ht),λh t ht=>zyI.2 (h t ht)⟩
theorem zyu:zb9 []:=zKx.2 λt ht=>by cases ht
theorem zPY (c:Int):zb9 [⟨c,[]⟩]:=zyc.2 λt ht f hf=>by
 rw [qh] at ht; subst ht; cases hf
theorem zUQ {x:At} (h:zyi x):zb9 (zke x):=zyc.2 λt ht f hf=>by
 simp only [zke,qh] at ht; subst ht;rw [qh] at hf; subst hf; exact h
theorem zNI {a:yB} (h:zb9 a):zb9 (zLp a).1:=by
 unfold zLp;cases zkm a with
 | true=>exact h
 | false=>exact zyu
theorem zYz {ok:Bool} {r:yB×Int} (h:ok=true->zb9 r.1):zb9 (opR ok r).1:=by
 cases ok with
 | true=>exact h rfl
 | false=>exact zyu
theorem zbcT {a b:yB} (hs:Srs a) (ha:zb9 a) (hb:zb9 b):zb9 (zvu a b):=zyc.2 λt ht f hf=>by
 obtain ⟨x,hx,e⟩:=zMi b a hs ht;rw [e] at hf;rcases hx with hx | hx
 ·exact zyc.1 ha x hx f hf
 ·exact zyc.1 hb x hx f hf
theorem zbbX {a b:yB} (ha:zb9 a) (hb:zb9 b):zb9 (zZU a b):=zyc.2 λt ht f hf=>by
 obtain ⟨x,hx,e⟩:=zMi (zBH a b) [] List.Pairwise.nil ht;rw [e] at hf;rcases hx with hx | hx
 ·cases hx
 ·obtain ⟨u,hu,v,hv,rfl⟩:=z2a hx;obtain ⟨y,hy,e⟩:=ztm hf;rw [e];rcases hy with hy | hy
  ·exact zyc.1 ha u hu y hy
  ·exact zyc.1 hb v hv y hy
theorem zbcY {a b:yB} (ha:zb9 a) (hb:zb9 b):zb9 (z9u a b).1:=zYz λhv=>by
 rw [qc] at hv;exact zNI (zbcT (z9j hv.1).1 ha hb)
theorem zbcW {a b:yB} (ha:zb9 a) (hb:zb9 b):zb9 (z9H a b).1:=zYz λ_=>zNI (zbbX ha hb)
theorem zXX {k:Int} {l:yA} (h:∀ a∈l,zb9 a):zyi ⟨k,⟨0,0⟩,l,0,[],0,⟨0,0,ByteArray.mk #[]⟩⟩:=(zG0 _).2 ⟨by simp,zBb.2 h,zyz.2 λw hw=>by cases hw⟩
theorem zbcq {a b:yB} (ha:zb9 a) (hb:zb9 b):zb9 (z9I a b).1:=zYz λ_=>by
 split
 ·exact ha
 ·split
  ·exact zyu
  ·refine zNI (zUQ (zXX λx hx=> ?_))
   simp only [qd,List.not_mem_nil,or_false] at hx;rcases hx with rfl | rfl
   ·exact ha
   ·exact hb
theorem zbb7 {a:yB} (ha:zb9 a):zb9 (z9G a).1:=zYz λ_=>by
 split
 ·exact ha
 ·split
  ·exact zPY 1
  ·refine zNI (zUQ (zXX λx hx=> ?_))
   rw [qh] at hx; subst hx; exact ha
theorem zbcn {a:yB} (ha:zb9 a):zb9 (z9E a).1:=zYz λ_=>by
 split
 ·exact zPY 1
 ·split
  ·exact zyu
  ·refine zNI (zUQ (zXX λx hx=> ?_))
   rw [qh] at hx; subst hx; exact ha
theorem zba4 {f o:Int} {l:yD} {b:Value} (hl:l.length<20) (h:∀ w∈l,zb9 w.Ann):zb9 (zZ2 f l o b).1:=by
 unfold zZ2;cases (!(zBc f l o b&&l.all λw=>zcx w.Ann)) with
 | true=>exact zyu
 | false=>
  cases decide (0<(zls l).length) with
  | true=>
   refine zNI (zUQ ((zG0 _).2 ⟨?_,zBb.2 λa ha=>(by cases ha),zyz.2 λw hw=>h w (zHh hw).1⟩))
   have h1:(zls l).length=(l.filter z5x).length:=(znX _ _).length_eq;have h2:=List.length_filter_le z5x l;show (zls l).length<20;omega
  | false=>
   cases (f==0&&z7C o (zdK 0 b.Int)) with
   | true=>exact zPY 1
   | false=>exact zyu
theorem z8O {b:yB} (hb:zb9 b):∀ (n:Nat) (p:yB),zb9 p->GP zb9 (z7e b n p)
 | 0,p,hp=>hp
 | n+1,p,hp=>zA3 (zUH (zbcW hp hb)) λq hq=>z8O hb n q hq
theorem zbc1 (n:Int):zb9 (z1T n):=by
 unfold z1T;split
 ·exact zyu
 ·exact zPY _
theorem z6h {l:yA} (h:∀ a∈l,zb9 a) (i:Nat):zb9 (l.getD i default):=by
 by_cases hi:i<l.length
 ·exact h _ (zL hi)
 ·rw [List.getD_eq_getElem?_getD,List.getElem?_eq_none (by omega)]; exact zyu
section
variable {to:RowID->yB} (ht:∀ r,zb9 (to r))
include ht
mutual
theorem z7K:∀ x:At,zyi x->GP zb9 (zSx to x)
 | ⟨k,r,a,f,i,o,b⟩=>λh=>by
  obtain ⟨h1,h2,h3⟩:=(zG0 _).1 h;rw [zSx];split
  ·exact ht r
  ·refine zA3 (zZF a (zBb.1 h2)) λxs hxs=> ?_
   have g0:=z6h hxs 0;have g1:=z6h hxs 1;split
   ·exact zUH (zbcq g0 g1)
   ·split
    ·exact zUH (zbb7 g0)
    ·split
     ·exact zUH (zbcn g0)
     ·refine zA3 (zWy i (zyz.1 h3)) λis his=>zUH (zba4 ?_ his.2)
      rw [his.1]; exact h1
theorem zQo:∀ l:yC,(∀ f∈l,zyi f.At)->∀ p,zb9 p->GP zb9 (ztd to l p)
 | [],_,p,hp=>by rw [ztd]; exact hp
 | ⟨x,e⟩::r,h,p,hp=>by
  rw [ztd];exact zA3 (z7K x (h ⟨x,e⟩ (by simp))) λb hb=>zA3 (z8O hb _ p hp) λq hq=>zQo r (λf hf=>h f (by simp [hf])) q hq
theorem zUy:∀ a:yB,(∀ t∈a,∀ f∈t.Fs,zyi f.At)->∀ s,zb9 s->GP zb9 (zqS to a s)
 | [],_,s,hs=>by rw [zqS]; exact hs
 | ⟨c,fs⟩::r,h,s,hs=>by
  rw [zqS];exact zA3 (zQo fs (h ⟨c,fs⟩ (by simp)) _ (zbc1 c)) λp hp=>zA3 (zUH (zbcY hs hp)) λq hq=>zUy r (λt ht=>h t (by simp [ht])) q hq
theorem zZF:∀ l:yA,(∀ a∈l,zb9 a)->GP (λr:yA=>∀ a∈r,zb9 a) (zyk to l)
 | [],_=>by rw [zyk]; exact λa ha=>by cases ha
 | a::r,h=>by
  rw [zyk];refine zA3 (zUy a (zyc.1 (h a (by simp))) [] zyu) λb hb=>zA3 (zZF r λc hc=>h c (by simp [hc])) λl hl=> ?_
  intro x hx;rcases qd.1 hx with rfl | hx
  ·exact hb
  ·exact hl x hx
theorem zWy:∀ l:yD,(∀ w∈l,zb9 w.Ann)->GP (λr:yD=>r.length=l.length/\∀ w∈r,zb9 w.Ann) (zuZ to l)
 | [],_=>by rw [zuZ]; exact ⟨rfl,λa ha=>by cases ha⟩
 | ⟨v,a⟩::r,h=>by
  rw [zuZ];refine zA3 (zUy a (zyc.1 (h ⟨v,a⟩ (by simp))) [] zyu) λb hb=>zA3 (zWy r λc hc=>h c (by simp [hc])) λl hl=> ?_
  refine ⟨by simp [hl.1],λx hx=> ?_⟩
  rcases qd.1 hx with rfl | hx
  ·exact hb
  ·exact hl.2 x hx
end
end
section
variable {σ:At->yB}
end
end Go.Proofs.YtoknknbmfmddbaaGreatDoor
/- Relations: the normal form, by the program. -/
set_option maxRecDepth 100000
namespace Go.Proofs.YtoknknbmfmddbaaGreatDoor
open Go Go.Ab
def zFx (x:Row):Bool:= !(x.Ann.length==0)
def cR (x y:Row):Int:=zqV x.Values y.Values
def zbdL (x:Row):Prop:=x.Values.length<=1000000/\okA x.Ann/\zcx x.Ann=true
structure okRel (r:Relation):Prop where
 cols:r.Columns.length<=1000000
 rows:r.Rows.length<20
 row:∀ x∈r.Rows,x.Values.length<=1000000/\okA x.Ann/\(zcx x.Ann=true->zb9 x.Ann)
end Go.Proofs.YtoknknbmfmddbaaGreatDoor
namespace Go.Proofs.YtoknknbmfmddbaaGreatDoor
open Go Go.Ab
end Go.Proofs.YtoknknbmfmddbaaGreatDoor
/- Relations: the normal form, by the reference. -/
set_option maxRecDepth 100000
namespace Go.Proofs.YtoknknbmfmddbaaGreatDoor
open Go Go.Ab
end Go.Proofs.YtoknknbmfmddbaaGreatDoor
/- Relations: the guards of the laws. -/
set_option maxRecDepth 100000
namespace Go.Proofs.YtoknknbmfmddbaaGreatDoor
open Go Go.Ab
theorem zbd3 {n:Nat} (hn:n<=1000) {a:yB} (ha:z34 a):∃ q,zzK (n:Int) [a]=(true,q)/\(q=true->okA a/\zdH a<=n):=by
 obtain ⟨q,h1,h2⟩:=zbcK n hn [a] (by simp) (λx hx=>by rw [qh] at hx; subst hx; exact ha)
 exact ⟨q,h1,λh=>⟨zbbV hn (h2 h a (by simp)) ha,(h2 h a (by simp)).2⟩⟩
structure smRel (rows w:Nat) (r:Relation):Prop where
 rows:r.Rows.length<=rows
 cols:r.Columns.length<=20
 names:∀ c∈r.Columns,c.Name.size<=100
 row:∀ x∈r.Rows,(x.Values.length<=20/\∀ v∈x.Values,v.Text.size<=300)/\okA x.Ann/\zdH x.Ann<=w
section
variable (rows w:Nat) (l:List Relation)
theorem zbcl (i:Nat) (hi:i<l.length) (hc:(l.getD i default).Columns.length<=20):∀ (n k:Nat),(l.getD i default).Columns.length<k+n->k<=(l.getD i default).Columns.length->∃ r,zUa n rows w l i k=(true,r)/\(r=.inl false\/(r=.inr ((rows:Int),(w:Int),l,(i:Int))/\∀ c∈(l.getD i default).Columns.drop k,c.Name.size<=100))
 | 0,k,h,h2=>by omega
 | n+1,k,h,h2=>by
  show ∃ r,(zIQ rows w l i k).ev (zB zHy (.inl default) n) (λr=>(true,r)) (false,.inl default)=(true,r)/\_
  unfold zIQ;by_cases hk:k<(l.getD i default).Columns.length
  ·simp only [Wy.ev_i,Wy.ev_k,Wy.ev_h,Wy.ev_d,tT,hi,hk];generalize hq:decide (_>(100:Int))=q;cases q with
   | true=>exact ⟨_,rfl,.inl rfl⟩
   | false=>
    rw [cond_false,zX (by omega)]
    obtain ⟨r,r1,r2⟩:=zbcl i hi hc n (k+1) (by omega) (by omega)
    refine ⟨r,r1,r2.imp_right λr2=>⟨r2.1,λc hc=> ?_⟩⟩
    rw [zbH hk] at hc;rcases qd.1 hc with rfl | hc
    ·have:=of_decide_eq_false hq;omega
    ·exact r2.2 c hc
  ·simp only [Wy.ev_i,Wy.ev_k,Wy.ev_h,Wy.ev_d,tT,hi,hk];exact ⟨_,rfl,.inr ⟨rfl,λc hc=>by rw [zdn hk] at hc; cases hc⟩⟩
theorem zbaD (hw:w<=1000) (i:Nat) (hi:i<l.length) (hr:(l.getD i default).Rows.length<=1000) (hwf:∀ x∈(l.getD i default).Rows,z9W x):∀ (n k:Nat),(l.getD i default).Rows.length<k+n->k<=(l.getD i default).Rows.length->
  ∃ r,zQc n rows w l i k=(true,r)/\(r=.inl false\/(r=.inr ((rows:Int),(w:Int),l,(i:Int))/\∀ x∈(l.getD i default).Rows.drop k,(x.Values.length<=20/\∀ v∈x.Values,v.Text.size<=300)/\okA x.Ann/\zdH x.Ann<=w))
 | 0,k,h,h2=>by omega
 | n+1,k,h,h2=>by
  show ∃ r,(zFL rows w l i k).ev (zB zFN (.inl default) n) (λr=>(true,r)) (false,.inl default)=(true,r)/\_
  unfold zFL;by_cases hk:k<(l.getD i default).Rows.length
  ·have hx:=hwf _ (zL hk);obtain ⟨b,b1,b2⟩:=z9w ((l.getD i default).Rows.getD k default).Values 20 hx.1.2;obtain ⟨q,q1,q2⟩:=zbd3 hw (a:=((l.getD i default).Rows.getD k default).Ann) hx.2;replace b1:zuV ((l.getD i default).Rows.getD k default).Values (20:Int)=(true,b):=b1;simp only [Wy.ev_i,Wy.ev_k,Wy.ev_h,Wy.ev_bn,Wy.ev_d,tT,hi,hk,b1,q1];cases b with
   | false=>exact ⟨_,rfl,.inl rfl⟩
   | true=>
    cases q with
    | false=>exact ⟨_,rfl,.inl rfl⟩
    | true=>
     rw [zX (by omega)]
     obtain ⟨r,h3,h4⟩:=zbaD hw i hi hr hwf n (k+1) (by omega) (by omega)
     refine ⟨r,h3,h4.imp_right λh4=>⟨h4.1,λx hx=> ?_⟩⟩
     rw [zbH hk] at hx;rcases qd.1 hx with rfl | hx
     ·exact ⟨b2 rfl,q2 rfl⟩
     ·exact h4.2 x hx
  ·simp only [Wy.ev_i,Wy.ev_k,Wy.ev_h,Wy.ev_d,tT,hi,hk];exact ⟨_,rfl,.inr ⟨rfl,λx hx=>by rw [zdn hk] at hx; cases hx⟩⟩
theorem zbcd (hrs:rows<=100) (hw:w<=1000) (hl:l.length<=1000) (hwf:∀ r∈l,z10 r):∀ (n i:Nat),l.length<i+n->i<=l.length->
  ∃ r,zUx n rows w l i=(true,r)/\(r=.inl false\/(r=.inr ()/\∀ x∈l.drop i,smRel rows w x))
 | 0,i,h,h2=>by omega
 | n+1,i,h,h2=>by
  show ∃ r,(zIj rows w l i).ev (zB zI2 (.inl default) n) (λr=>(true,r)) (false,.inl default)=(true,r)/\_
  unfold zIj;by_cases hi:i<l.length
  ·have hwr:=hwf _ (zL hi);have e2:decide ((((l.getD i default).Columns.length:Nat):Int)>(20:Int))=decide ((l.getD i default).Columns.length>20):=ziv _ 20;simp only [Wy.ev_i,Wy.ev_k,Wy.ev_h,Wy.ev_d,tT,hi];rw [e2];by_cases h3:rows<(l.getD i default).Rows.length
   ·rw [decide_eq_true h3]; exact ⟨_,rfl,.inl rfl⟩
   by_cases h4:(l.getD i default).Columns.length>20
   ·rw [decide_eq_false h3,decide_eq_true h4]; exact ⟨_,rfl,.inl rfl⟩
   rw [decide_eq_false h3,decide_eq_false h4,cond_false,cond_false];obtain ⟨r7,a1,a2⟩:=zbcl rows w l i hi (by omega) ((rows:Int).toNat +(w:Int).toNat +l.length+i+Int.toNat (0:Int)+(1000:Nat)) 0 (by omega) (by omega)
   rw [show ((0:Nat):Int)=(0:Int) from rfl] at a1
   simp only [Int.toNat_natCast] at a1;simp only [Wy.ev_bn,a1,cond_true];rcases a2 with rfl | ⟨rfl,a3⟩
   ·exact ⟨_,rfl,.inl rfl⟩
   ·obtain ⟨r12,b1,b2⟩:=zbaD rows w l hw i hi (by omega) hwr.2.1 ((rows:Int).toNat +(w:Int).toNat +l.length+(i:Int).toNat +Int.toNat (0:Int)+(1000:Nat)) 0 (by omega) (by omega)
    rw [show ((0:Nat):Int)=(0:Int) from rfl] at b1
    simp only [Wy.ev_i,Wy.ev_k,Wy.ev_h,Wy.ev_bn,isL,getL,getR,cond_false,b1,cond_true];rcases b2 with rfl | ⟨rfl,b3⟩
    ·exact ⟨_,rfl,.inl rfl⟩
    ·simp only [isL,getL,getR,cond_false,zX (show i<4611686018427387904 by omega)]
     obtain ⟨r,c1,c2⟩:=zbcd hrs hw hl hwf n (i+1) (by omega) (by omega)
     refine ⟨r,c1,c2.imp_right λc2=>⟨c2.1,λx hx=> ?_⟩⟩
     rw [zbH hi] at hx;rcases qd.1 hx with rfl | hx
     ·rw [List.drop_zero] at b3 a3;exact ⟨by omega,by omega,a3,b3⟩
     ·exact c2.2 x hx
  ·simp only [Wy.ev_i,Wy.ev_k,Wy.ev_h,Wy.ev_d,tT,hi];exact ⟨_,rfl,.inr ⟨rfl,λx hx=>by rw [zdn hi] at hx; cases hx⟩⟩
theorem zbdV (hrs:rows<=100) (hw:w<=1000) (hl:l.length<=1000) (hwf:∀ r∈l,z10 r):∃ q,zzR rows w l=(true,q)/\(q=true->∀ r∈l,smRel rows w r):=by
 unfold zzR zWv;obtain ⟨r,h1,h2⟩:=zbcd rows w l hrs hw hl hwf ((rows:Int).toNat +(w:Int).toNat +l.length+Int.toNat (0:Int)+(1000:Nat)) 0 (by omega) (by omega)
 rw [show ((0:Nat):Int)=(0:Int) from rfl] at h1
 rw [Wy.fin_bn,h1];rcases h2 with rfl | ⟨rfl,h2⟩
 ·exact ⟨false,rfl,λh=>by cases h⟩
 ·exact ⟨true,rfl,λ_=>by rw [List.drop_zero] at h2; exact h2⟩
end
theorem smRel.ok {rows w:Nat} {r:Relation} (h:smRel rows w r) (hr:rows<20) (hw:w<=38):okRel r where
 cols:=by have:=h.cols; omega
 rows:=by have:=h.rows; omega
 row:=λx hx=>⟨by have:=(h.row x hx).1.1; omega,(h.row x hx).2.1,λhv=>zYm 100 x.Ann hv (by have:=(h.row x hx).2.2; omega)⟩
end Go.Proofs.YtoknknbmfmddbaaGreatDoor
namespace Go.Proofs.YtoknknbmfmddbaaGreatDoor
open Go Go.Ab
end Go.Proofs.YtoknknbmfmddbaaGreatDoor
/- Relations compared; tables of named rows. -/
set_option maxRecDepth 100000
namespace Go.Proofs.YtoknknbmfmddbaaGreatDoor
open Go Go.Ab
theorem zUP {τ:Type} [Inhabited τ] [DecidableEq τ] {a b:List τ} (h:a.length=b.length):zdR (λi=>decide (a.getD i default=b.getD i default)) a.length 0=decide (a=b):=by
 by_cases e:a=b
 ·subst e;rw [decide_eq_true rfl];exact zdt.2 λk _ _=>by simp
 ·rw [decide_eq_false e];cases hc:zdR (λi=>decide (a.getD i default=b.getD i default)) a.length 0 with
  | false=>rfl
  | true=>
   refine absurd (List.ext_getElem h λi h1 h2=> ?_) e
   have:=zdt.1 hc i (by omega) (by omega)
   rw [qe,List.getD_eq_getElem?_getD,List.getD_eq_getElem?_getD,List.getElem?_eq_getElem h1,List.getElem?_eq_getElem h2] at this;exact this
theorem zbaI (x y:Column):(x.Name.toList==y.Name.toList&&x.Type_==y.Type_)=decide (x=y):=by
 rw [zwR,ziP];cases x; cases y;simp only [Column.mk.injEq];exact (Bool.decide_and _ _).symm
theorem z1j (a b:yH) (ha:a.length<=1000000):zmR a b=(true,decide (a=b)):=by
 unfold zmR zCj;rw [Wy.fin_i,zrA,zy3];by_cases he:a.length=b.length
 ·have key:=zcE (W:=zty) (z:=.inl default) a.length (λi=>(a,b,(i:Int),())) (λ_=>()) (λi=>decide (a.getD i default=b.getD i default)) (.inl false) (.inr ()) (λi hi H K D=>by
    show (zjJ a b i).ev H K D=_;unfold zjJ;have hi':i<b.length:=by omega
    simp only [Wy.ev_i,Wy.ev_k,Wy.ev_h,Wy.ev_bn,Wy.ev_d,tT,hi,hi',zbaI,zX (show i<4611686018427387904 by omega)]
    cases decide (a.getD i default=b.getD i default) <;>rfl) (λH K D=>by
    show (zjJ a b a.length).ev H K D=_;unfold zjJ;simp only [Wy.ev_i,Wy.ev_k,Wy.ev_h,Wy.ev_bn,Wy.ev_d,tT,Nat.lt_irrefl]) (a.length+b.length+Int.toNat (0:Int)+(1:Nat)) (by omega)
  replace key:zBM (a.length+b.length+Int.toNat (0:Int)+(1:Nat)) a b 0=_:=key;rw [decide_eq_true he,Bool.not_true,cond_false,Wy.fin_bn,key,zUP he];cases decide (a=b) <;>rfl
 ·rw [decide_eq_false he,decide_eq_false (show ¬ a=b from λe=>he (by rw [e]))]; rfl
theorem zbaL (x y:Row):(decide (x.Values=y.Values)&&decide (x.Ann=y.Ann))=decide (x=y):=by
 cases x; cases y;simp only [Row.mk.injEq];exact (Bool.decide_and _ _).symm
theorem z56 (a b:yF) (ha:a.length<=1000000) (h:∀ x∈a,x.Values.length<=1000000/\okA x.Ann):zsA a b=(true,decide (a=b)):=by
 unfold zsA zH2;rw [Wy.fin_i,zrA,zy3];by_cases he:a.length=b.length
 ·have key:=zcE (W:=zxO) (z:=.inl default) a.length (λi=>(a,b,(i:Int),())) (λ_=>()) (λi=>decide (a.getD i default=b.getD i default)) (.inl false) (.inr ()) (λi hi H K D=>by
    show (znh a b i).ev H K D=_;unfold znh;have hi':i<b.length:=by omega
    obtain ⟨k1,k2⟩:=h _ (zL hi);have ks:zrg (a.getD i default).Ann (b.getD i default).Ann=(true,decide ((a.getD i default).Ann=(b.getD i default).Ann)):=zQu k2.1.1 (by omega) _
    simp only [Wy.ev_i,Wy.ev_k,Wy.ev_h,Wy.ev_bn,Wy.ev_d,tT,hi,hi',z3v _ (b.getD i default).Values k1,ks,zX (show i<4611686018427387904 by omega)]
    rw [<- zbaL];cases decide ((a.getD i default).Values=(b.getD i default).Values) <;>cases decide ((a.getD i default).Ann=(b.getD i default).Ann) <;>rfl) (λH K D=>by
    show (znh a b a.length).ev H K D=_;unfold znh;simp only [Wy.ev_i,Wy.ev_k,Wy.ev_h,Wy.ev_bn,Wy.ev_d,tT,Nat.lt_irrefl]) (a.length+b.length+Int.toNat (0:Int)+(1:Nat)) (by omega)
  replace key:zGe (a.length+b.length+Int.toNat (0:Int)+(1:Nat)) a b 0=_:=key;rw [decide_eq_true he,Bool.not_true,cond_false,Wy.fin_bn,key,zUP he];cases decide (a=b) <;>rfl
 ·rw [decide_eq_false he,decide_eq_false (show ¬ a=b from λe=>he (by rw [e]))]; rfl
theorem z8K (a b:Relation) (hc:a.Columns.length<=1000000) (ha:a.Rows.length<=1000000) (h:∀ x∈a.Rows,x.Values.length<=1000000/\okA x.Ann):zAA a b=(true,decide (a=b)):=by
 unfold zAA zTn;rw [Wy.fin_bn,z1j _ _ hc,cond_true,Wy.fin_i,Wy.fin_bn,z56 _ _ ha h]
 have e:decide (a=b)=(decide (a.Columns=b.Columns)&&decide (a.Rows=b.Rows)):=by
  cases a; cases b;simp only [Relation.mk.injEq];exact Bool.decide_and _ _
 rw [e];cases decide (a.Columns=b.Columns) <;>rfl
end Go.Proofs.YtoknknbmfmddbaaGreatDoor
namespace Go.Proofs.YtoknknbmfmddbaaGreatDoor
open Go Go.Ab
end Go.Proofs.YtoknknbmfmddbaaGreatDoor
/- Relations: equality by the program; the empty relation. -/
set_option maxRecDepth 100000
namespace Go.Proofs.YtoknknbmfmddbaaGreatDoor
open Go Go.Ab
theorem z8d (a b:yH) (ha:a.length<=1000000):zds a b=(true,decide (a=b)):=by
 unfold zds zk2;rw [Wy.fin_i,zrA,zy3];by_cases he:a.length=b.length
 ·have key:=zcE (W:=zgi) (z:=.inl default) a.length (λi=>(a,b,(a.length:Int),(i:Int),())) (λ_=>()) (λi=>decide (a.getD i default=b.getD i default)) (.inl false) (.inr ()) (λi hi H K D=>by
    show (zc0 a b a.length i).ev H K D=_;unfold zc0;have hi':i<b.length:=by omega
    simp only [Wy.ev_i,Wy.ev_k,Wy.ev_h,Wy.ev_bn,Wy.ev_d,tT,hi,hi',zbaI,zX (show i<4611686018427387904 by omega)]
    cases decide (a.getD i default=b.getD i default) <;>rfl) (λH K D=>by
    show (zc0 a b a.length a.length).ev H K D=_;unfold zc0;simp only [Wy.ev_i,Wy.ev_k,Wy.ev_h,Wy.ev_bn,Wy.ev_d,tT,Nat.lt_irrefl]) (a.length+b.length+(Int.ofNat a.length).toNat +Int.toNat (0:Int)+(1000:Nat)) (by omega)
  replace key:zkz (a.length+b.length+(Int.ofNat a.length).toNat +Int.toNat (0:Int)+(1000:Nat)) a b (Int.ofNat a.length) 0=_:=key;rw [decide_eq_true he,Bool.not_true,cond_false,Wy.fin_bn,key,zUP he];cases decide (a=b) <;>rfl
 ·rw [decide_eq_false he,decide_eq_false (show ¬ a=b from λe=>he (by rw [e]))]; rfl
theorem z67 (x y:Row) (h1:x.Values.length<=1000000) (h2:okA x.Ann):zo5 x y=(true,decide (x=y)):=by
 unfold zo5 zD2;have ea:zfz x.Ann y.Ann=(true,decide (x.Ann=y.Ann)):=zCw h2.1.1 (by omega) _
 have ec:(zqV x.Values y.Values==(0:Int))=decide (x.Values=y.Values):=by rw [ziP,decide_eq_decide]; exact zPx _ _
 rw [Wy.fin_bn,zCt x y h1,cond_true,Wy.fin_i,ec,Wy.fin_bn,ea, <- zbaL];cases decide (x.Values=y.Values) <;>rfl
theorem z8z (a b:yF) (ha:a.length<=1000000) (h:∀ x∈a,x.Values.length<=1000000/\okA x.Ann):zb2 a b=(true,decide (a=b)):=by
 unfold zb2 zfJ;rw [Wy.fin_i,zrA,zy3];by_cases he:a.length=b.length
 ·have key:=zcE (W:=zdl) (z:=.inl default) a.length (λi=>(b,(),a,(a.length:Int),(i:Int),())) (λ_=>()) (λi=>decide (a.getD i default=b.getD i default)) (.inl false) (.inr ()) (λi hi H K D=>by
    show (zbS b a a.length i).ev H K D=_;unfold zbS;have hi':i<b.length:=by omega
    obtain ⟨k1,k2⟩:=h _ (zL hi);simp only [Wy.ev_i,Wy.ev_k,Wy.ev_h,Wy.ev_bn,Wy.ev_d,tT,hi,hi',z67 _ _ k1 k2,zX (show i<4611686018427387904 by omega)]
    cases decide (a.getD i default=b.getD i default) <;>rfl) (λH K D=>by
    show (zbS b a a.length a.length).ev H K D=_;unfold zbS;simp only [Wy.ev_i,Wy.ev_k,Wy.ev_h,Wy.ev_bn,Wy.ev_d,tT,Nat.lt_irrefl]) (b.length+a.length+(Int.ofNat a.length).toNat +Int.toNat (0:Int)+(1000:Nat)) (by omega)
  replace key:zfE (b.length+a.length+(Int.ofNat a.length).toNat +Int.toNat (0:Int)+(1000:Nat)) b a (Int.ofNat a.length) 0=_:=key;rw [decide_eq_true he,Bool.not_true,cond_false,Wy.fin_bn,key,zUP he];cases decide (a=b) <;>rfl
 ·rw [decide_eq_false he,decide_eq_false (show ¬ a=b from λe=>he (by rw [e]))]; rfl
theorem zWG (a b:Relation) (hc:a.Columns.length<=1000000) (ha:a.Rows.length<=1000000) (h:∀ x∈a.Rows,x.Values.length<=1000000/\okA x.Ann):zkR a b=(true,decide (a=b)):=by
 unfold zkR zHH;rw [Wy.fin_bn,z8d _ _ hc,cond_true,Wy.fin_i,Wy.fin_bn,z8z _ _ ha h]
 have e:decide (a=b)=(decide (a.Columns=b.Columns)&&decide (a.Rows=b.Rows)):=by
  cases a; cases b;simp only [Relation.mk.injEq];exact Bool.decide_and _ _
 rw [e];cases decide (a.Columns=b.Columns) <;>rfl
end Go.Proofs.YtoknknbmfmddbaaGreatDoor
/- Relations in normal form, by what is found in them. No program in sight. -/
set_option maxRecDepth 100000
namespace Go.Proofs.YtoknknbmfmddbaaGreatDoor
open Go Go.Ab
abbrev zbaH (M:yF):Prop:=M.Pairwise λx y=>cR x y<0
theorem zbb3 {x y:Row}:cR x y=0↔x.Values=y.Values:=zPx _ _
theorem z9R {x y z:Row} (h1:cR x y<0) (h2:cR y z<0):cR x z<0:=by
 have a:=z5C (x:=x.Values) (y:=y.Values) (z:=z.Values) (by unfold cR at h1; omega) (by unfold cR at h2; omega)
 by_cases e:cR x z=0
 ·have:=zbb3.1 e;unfold cR at h1 h2;rw [this] at h1;have:=z7T y.Values z.Values;omega
 ·unfold cR at *; omega
end Go.Proofs.YtoknknbmfmddbaaGreatDoor
namespace Go.Proofs.YtoknknbmfmddbaaGreatDoor
open Go Go.Ab
end Go.Proofs.YtoknknbmfmddbaaGreatDoor
end
