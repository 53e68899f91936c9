/- Texts of this claim, joined (the program, its functions in plain words, and what they compute). -/
import Derived.Test.YtoknknbmfmddbaaGreatDoorGC11
set_option autoImplicit false
set_option linter.unusedVariables false
set_option linter.unusedSectionVars false
set_option linter.unusedSimpArgs false
set_option maxRecDepth 1000000
set_option maxHeartbeats 0
/- Relations: the guards of the laws. -/
set_option maxRecDepth 100000
noncomputable section
namespace Go.Proofs.YtoknknbmfmddbaaGreatDoor
open Go Go.Ab
theorem zbiz {n:Nat} (hn:n<=1000) {a:yB} (ha:z8V a):∃ q,zBS (n:Int) [a]=(true,q)/\(q=true->okA a/\zej a<=n):=by
 obtain ⟨q,h1,h2⟩:=zbgP n hn [a] (by simp) (λx hx=>by rw [qh] at hx; subst hx; exact ha)
 exact ⟨q,h1,λh=>⟨zbe0 hn (h2 h a (by simp)) ha,(h2 h a (by simp)).2⟩⟩
structure smRel (rows w:Nat) (r:Relation):Prop where
 rows:r.Rows.length<=rows
 cols:r.Columns.length<=20
 row:∀ x∈r.Rows,(x.Values.length<=20/\∀ v∈x.Values,v.Text.size<=300)/\okA x.Ann/\zej x.Ann<=w
section
variable (rows w:Nat) (l:List Relation)
theorem zbhe (i:Nat) (hi:i<l.length) (hc:(l.getD i default).Columns.length<=20):∀ (n k:Nat),(l.getD i default).Columns.length<k+n->k<=(l.getD i default).Columns.length->∃ r,zUP n rows w l i k=(true,r)/\(r=.inl false\/r=.inr ((rows:Int),(w:Int),l,(i:Int)))
 | 0,k,h,h2=>by omega
 | n+1,k,h,h2=>by
  show ∃ r,(zLC rows w l i k).ev (zB zJ2 (.inl default) n) (λr=>(true,r)) (false,.inl default)=(true,r)/\_
  unfold zLC;by_cases hk:k<(l.getD i default).Columns.length
  ·simp only [Wy.ev_i,Wy.ev_k,Wy.ev_h,Wy.ev_d,tT,hi,hk];generalize decide (_>(100:Int))=q;cases q with
   | true=>exact ⟨_,rfl,.inl rfl⟩
   | false=>
    rw [cond_false,zw (by omega)]
    exact zbhe i hi hc n (k+1) (by omega) (by omega)
  ·simp only [Wy.ev_i,Wy.ev_k,Wy.ev_h,Wy.ev_d,tT,hi,hk];exact ⟨_,rfl,.inr rfl⟩
theorem zbeS (hw:w<=1000) (i:Nat) (hi:i<l.length) (hr:(l.getD i default).Rows.length<=1000) (hwf:∀ x∈(l.getD i default).Rows,zbdK x):∀ (n k:Nat),(l.getD i default).Rows.length<k+n->k<=(l.getD i default).Rows.length->
  ∃ r,zSM n rows w l i k=(true,r)/\(r=.inl false\/(r=.inr ((rows:Int),(w:Int),l,(i:Int))/\∀ x∈(l.getD i default).Rows.drop k,(x.Values.length<=20/\∀ v∈x.Values,v.Text.size<=300)/\okA x.Ann/\zej x.Ann<=w))
 | 0,k,h,h2=>by omega
 | n+1,k,h,h2=>by
  show ∃ r,(zHR rows w l i k).ev (zB zHF (.inl default) n) (λr=>(true,r)) (false,.inl default)=(true,r)/\_
  unfold zHR;by_cases hk:k<(l.getD i default).Rows.length
  ·have hx:=hwf _ (zn hk);obtain ⟨b,b1,b2⟩:=zbdM ((l.getD i default).Rows.getD k default).Values 20 hx.1.2;obtain ⟨q,q1,q2⟩:=zbiz hw (a:=((l.getD i default).Rows.getD k default).Ann) hx.2;replace b1:zxd ((l.getD i default).Rows.getD k default).Values (20:Int)=(true,b):=b1;simp only [Wy.ev_i,Wy.ev_k,Wy.ev_h,Wy.ev_bn,Wy.ev_d,tT,hi,hk,b1,q1];cases b with
   | false=>exact ⟨_,rfl,.inl rfl⟩
   | true=>
    cases q with
    | false=>exact ⟨_,rfl,.inl rfl⟩
    | true=>
     rw [zw (by omega)]
     obtain ⟨r,h3,h4⟩:=zbeS hw i hi hr hwf n (k+1) (by omega) (by omega)
     refine ⟨r,h3,h4.imp_right λh4=>⟨h4.1,λx hx=> ?_⟩⟩
     rw [zbg hk] at hx;rcases qd.1 hx with rfl | hx
     ·exact ⟨b2 rfl,q2 rfl⟩
     ·exact h4.2 x hx
  ·simp only [Wy.ev_i,Wy.ev_k,Wy.ev_h,Wy.ev_d,tT,hi,hk];exact ⟨_,rfl,.inr ⟨rfl,λx hx=>by rw [zco hk] at hx; cases hx⟩⟩
theorem zbhB (hrs:rows<=100) (hw:w<=1000) (hl:l.length<=1000) (hwf:∀ r∈l,z8f r):∀ (n i:Nat),l.length<i+n->i<=l.length->
  ∃ r,zVC n rows w l i=(true,r)/\(r=.inl false\/(r=.inr ()/\∀ x∈l.drop i,smRel rows w x))
 | 0,i,h,h2=>by omega
 | n+1,i,h,h2=>by
  show ∃ r,(zKC rows w l i).ev (zB zLJ (.inl default) n) (λr=>(true,r)) (false,.inl default)=(true,r)/\_
  unfold zKC;by_cases hi:i<l.length
  ·have hwr:=hwf _ (zn hi);have e2:decide ((((l.getD i default).Columns.length:Nat):Int)>(20:Int))=decide ((l.getD i default).Columns.length>20):=zjp _ 20;simp only [Wy.ev_i,Wy.ev_k,Wy.ev_h,Wy.ev_d,tT,hi];rw [e2];by_cases h3:rows<(l.getD i default).Rows.length
   ·rw [decide_eq_true h3]; exact ⟨_,rfl,.inl rfl⟩
   by_cases h4:(l.getD i default).Columns.length>20
   ·rw [decide_eq_false h3,decide_eq_true h4]; exact ⟨_,rfl,.inl rfl⟩
   rw [decide_eq_false h3,decide_eq_false h4,cond_false,cond_false];obtain ⟨r7,a1,a2⟩:=zbhe rows w l i hi (by omega) ((rows:Int).toNat +(w:Int).toNat +l.length+i+Int.toNat (0:Int)+(1000:Nat)) 0 (by omega) (by omega)
   rw [show ((0:Nat):Int)=(0:Int) from rfl] at a1
   simp only [Int.toNat_natCast] at a1;simp only [Wy.ev_bn,a1,cond_true];rcases a2 with rfl | rfl
   ·exact ⟨_,rfl,.inl rfl⟩
   ·obtain ⟨r12,b1,b2⟩:=zbeS rows w l hw i hi (by omega) hwr.2.1 ((rows:Int).toNat +(w:Int).toNat +l.length+(i:Int).toNat +Int.toNat (0:Int)+(1000:Nat)) 0 (by omega) (by omega)
    rw [show ((0:Nat):Int)=(0:Int) from rfl] at b1
    simp only [Wy.ev_i,Wy.ev_k,Wy.ev_h,Wy.ev_bn,isL,getL,getR,cond_false,b1,cond_true];rcases b2 with rfl | ⟨rfl,b3⟩
    ·exact ⟨_,rfl,.inl rfl⟩
    ·simp only [isL,getL,getR,cond_false,zw (show i<4611686018427387904 by omega)]
     obtain ⟨r,c1,c2⟩:=zbhB hrs hw hl hwf n (i+1) (by omega) (by omega)
     refine ⟨r,c1,c2.imp_right λc2=>⟨c2.1,λx hx=> ?_⟩⟩
     rw [zbg hi] at hx;rcases qd.1 hx with rfl | hx
     ·rw [List.drop_zero] at b3;exact ⟨by omega,by omega,b3⟩
     ·exact c2.2 x hx
  ·simp only [Wy.ev_i,Wy.ev_k,Wy.ev_h,Wy.ev_d,tT,hi];exact ⟨_,rfl,.inr ⟨rfl,λx hx=>by rw [zco hi] at hx; cases hx⟩⟩
theorem zbiu (hrs:rows<=100) (hw:w<=1000) (hl:l.length<=1000) (hwf:∀ r∈l,z8f r):∃ q,zB0 rows w l=(true,q)/\(q=true->∀ r∈l,smRel rows w r):=by
 unfold zB0 zZk;obtain ⟨r,h1,h2⟩:=zbhB rows w l hrs hw hl hwf ((rows:Int).toNat +(w:Int).toNat +l.length+Int.toNat (0:Int)+(1000:Nat)) 0 (by omega) (by omega)
 rw [show ((0:Nat):Int)=(0:Int) from rfl] at h1
 rw [Wy.fin_bn,h1];rcases h2 with rfl | ⟨rfl,h2⟩
 ·exact ⟨false,rfl,λh=>by cases h⟩
 ·exact ⟨true,rfl,λ_=>by rw [List.drop_zero] at h2; exact h2⟩
end
theorem smRel.ok {rows w:Nat} {r:Relation} (h:smRel rows w r) (hr:rows<20) (hw:w<=38):okRel r where
 cols:=by have:=h.cols; omega
 rows:=by have:=h.rows; omega
 row:=λx hx=>⟨by have:=(h.row x hx).1.1; omega,(h.row x hx).2.1,λhv=>z0K 100 x.Ann hv (by have:=(h.row x hx).2.2; omega)⟩
def zVd (t:Table):Wy0 (Relation×Int):=.bn (zlm (Relation.mk t.Columns t.Rows)) λr0=>.k (r0.1,r0.2)
def z1N (t:Table):=(zVd t).fin default
end Go.Proofs.YtoknknbmfmddbaaGreatDoor
/- Relations compared; tables of named rows. -/
set_option maxRecDepth 100000
namespace Go.Proofs.YtoknknbmfmddbaaGreatDoor
open Go Go.Ab
theorem z33 {τ:Type} [Inhabited τ] [DecidableEq τ] {a b:List τ} (h:a.length=b.length):zdK (λi=>decide (a.getD i default=b.getD i default)) a.length 0=decide (a=b):=by
 by_cases e:a=b
 ·subst e;rw [decide_eq_true rfl];exact zdY.2 λk _ _=>by simp
 ·rw [decide_eq_false e];cases hc:zdK (λi=>decide (a.getD i default=b.getD i default)) a.length 0 with
  | false=>rfl
  | true=>
   refine absurd (List.ext_getElem h λi h1 h2=> ?_) e
   have:=zdY.1 hc i (by omega) (by omega)
   rw [qe,List.getD_eq_getElem?_getD,List.getD_eq_getElem?_getD,List.getElem?_eq_getElem h1,List.getElem?_eq_getElem h2] at this;exact this
theorem zbhK (x y:Column):(x.Name.toList==y.Name.toList&&x.Type_==y.Type_)=decide (x=y):=by
 rw [zCv,zf8];cases x; cases y;simp only [Column.mk.injEq];exact (Bool.decide_and _ _).symm
theorem z3q (a b:yH) (ha:a.length<=1000000):zoL a b=(true,decide (a=b)):=by
 unfold zoL zEE;rw [Wy.fin_i,zpE,zBH];by_cases he:a.length=b.length
 ·have key:=zcs (W:=zwa) (z:=.inl default) a.length (λi=>(a,b,(i:Int),())) (λ_=>()) (λi=>decide (a.getD i default=b.getD i default)) (.inl false) (.inr ()) (λi hi H K D=>by
    show (zkW a b i).ev H K D=_;unfold zkW;have hi':i<b.length:=by omega
    simp only [Wy.ev_i,Wy.ev_k,Wy.ev_h,Wy.ev_bn,Wy.ev_d,tT,hi,hi',zbhK,zw (show i<4611686018427387904 by omega)]
    cases decide (a.getD i default=b.getD i default) <;>rfl) (λH K D=>by
    show (zkW a b a.length).ev H K D=_;unfold zkW;simp only [Wy.ev_i,Wy.ev_k,Wy.ev_h,Wy.ev_bn,Wy.ev_d,tT,Nat.lt_irrefl]) (a.length+b.length+Int.toNat (0:Int)+(1:Nat)) (by omega)
  replace key:zDJ (a.length+b.length+Int.toNat (0:Int)+(1:Nat)) a b 0=_:=key;rw [decide_eq_true he,Bool.not_true,cond_false,Wy.fin_bn,key,z33 he];cases decide (a=b) <;>rfl
 ·rw [decide_eq_false he,decide_eq_false (show ¬ a=b from λe=>he (by rw [e]))]; rfl
theorem zbh7 (x y:Row):(decide (x.Values=y.Values)&&decide (x.Ann=y.Ann))=decide (x=y):=by
 cases x; cases y;simp only [Row.mk.injEq];exact (Bool.decide_and _ _).symm
theorem z93 (a b:yF) (ha:a.length<=1000000) (h:∀ x∈a,x.Values.length<=1000000/\okA x.Ann):zuT a b=(true,decide (a=b)):=by
 unfold zuT zKt;rw [Wy.fin_i,zpE,zBH];by_cases he:a.length=b.length
 ·have key:=zcs (W:=zAe) (z:=.inl default) a.length (λi=>(a,b,(i:Int),())) (λ_=>()) (λi=>decide (a.getD i default=b.getD i default)) (.inl false) (.inr ()) (λi hi H K D=>by
    show (zoR a b i).ev H K D=_;unfold zoR;have hi':i<b.length:=by omega
    obtain ⟨k1,k2⟩:=h _ (zn hi);have ks:zpB (a.getD i default).Ann (b.getD i default).Ann=(true,decide ((a.getD i default).Ann=(b.getD i default).Ann)):=zIl k2.1.1 (by omega) _
    simp only [Wy.ev_i,Wy.ev_k,Wy.ev_h,Wy.ev_bn,Wy.ev_d,tT,hi,hi',zS7 _ (b.getD i default).Values k1,ks,zw (show i<4611686018427387904 by omega)]
    rw [<- zbh7];cases decide ((a.getD i default).Values=(b.getD i default).Values) <;>cases decide ((a.getD i default).Ann=(b.getD i default).Ann) <;>rfl) (λH K D=>by
    show (zoR a b a.length).ev H K D=_;unfold zoR;simp only [Wy.ev_i,Wy.ev_k,Wy.ev_h,Wy.ev_bn,Wy.ev_d,tT,Nat.lt_irrefl]) (a.length+b.length+Int.toNat (0:Int)+(1:Nat)) (by omega)
  replace key:zIN (a.length+b.length+Int.toNat (0:Int)+(1:Nat)) a b 0=_:=key;rw [decide_eq_true he,Bool.not_true,cond_false,Wy.fin_bn,key,z33 he];cases decide (a=b) <;>rfl
 ·rw [decide_eq_false he,decide_eq_false (show ¬ a=b from λe=>he (by rw [e]))]; rfl
theorem zbcS (a b:Relation) (hc:a.Columns.length<=1000000) (ha:a.Rows.length<=1000000) (h:∀ x∈a.Rows,x.Values.length<=1000000/\okA x.Ann):zDn a b=(true,decide (a=b)):=by
 unfold zDn zVM;rw [Wy.fin_bn,z3q _ _ hc,cond_true,Wy.fin_i,Wy.fin_bn,z93 _ _ ha h]
 have e:decide (a=b)=(decide (a.Columns=b.Columns)&&decide (a.Rows=b.Rows)):=by
  cases a; cases b;simp only [Relation.mk.injEq];exact Bool.decide_and _ _
 rw [e];cases decide (a.Columns=b.Columns) <;>rfl
theorem zZM {r:Relation} (h:okRel r):(zt7 r).1.Columns.length<=1000000/\(zt7 r).1.Rows.length<=1000000/\∀ x∈(zt7 r).1.Rows,x.Values.length<=1000000/\okA x.Ann:=by
 unfold zt7;split
 ·exact ⟨by simp,by simp,λx hx=>by cases hx⟩
 ·split
  ·rename_i hk;have hv:=zIZ hk
   have hfm:∀ x∈r.Rows.filter zeM,zpt x:=λx hx=>by
    have hm:=(List.mem_filter.1 hx).1;obtain ⟨k1,k2,k3⟩:=h.row x hm;exact ⟨k1,k2,(hv x hm).2⟩
   have go:∀ (l M N:yF),(∀ w∈M,zpt w)->(∀ x∈l,zpt x)->l.foldl (λo x=>o.bind λM=>zg8 cR zeN M x) (some M)=some N->∀ w∈N,zpt w:=by
    intro l;induction l with
    | nil=>intro M N k _ e; rw [List.foldl_nil,qa] at e; subst e; exact k
    | cons x l ih=>
     intro M N k u e;rw [List.foldl_cons,Option.bind_some] at e;cases e1:zg8 cR zeN M x with
     | none=>rw [e1,zWp] at e; cases e
     | some K=>
      rw [e1] at e;exact ih K N (zbaO k (u x (by simp)) e1) (λy hy=>u y (by simp [hy])) e
   cases e:(r.Rows.filter zeM).foldl (λo x=>o.bind λM=>zg8 cR zeN M x) (some []) with
   | none=>exact ⟨by simp,by simp,λx hx=>by cases hx⟩
   | some M=>
    have h1:=zR7 e;have h2:(r.Rows.filter zeM).length<=r.Rows.length:=List.length_filter_le _ _;have h3:=h.rows
    exact ⟨h.cols,by simp at h1; show M.length<=_; omega,λx hx=>by
     have:=go _ [] M (λw hw=>by cases hw) hfm e x hx
     exact ⟨this.1,this.2.1⟩⟩
  ·exact ⟨by simp,by simp,λx hx=>by cases hx⟩
theorem zbe5 (t:Table) (h:okRel ⟨t.Columns,t.Rows⟩):zso t=(true,zt7 ⟨t.Columns,t.Rows⟩)/\z1N t=(true,zt7 ⟨t.Columns,t.Rows⟩):=by
 unfold zso zNb z1N zVd;rw [Wy.fin_bn,Wy.fin_bn,zLD _ h,zHH _ h];exact ⟨rfl,rfl⟩
end Go.Proofs.YtoknknbmfmddbaaGreatDoor
/- Relations: what is valid, and the sum, by the program and the reference. -/
set_option maxRecDepth 100000
namespace Go.Proofs.YtoknknbmfmddbaaGreatDoor
open Go Go.Ab
def vR (r:Relation) (i:Nat):Bool:=zoS r.Columns (r.Rows.getD i default).Values&&(zeM (r.Rows.getD i default)&&(zU (r.Rows.getD i default).Ann&&(decide (i=0)||decide (cR (r.Rows.getD (i - 1) default) (r.Rows.getD i default)<0))))
def zov (r:Relation):Bool:=zFQ r.Columns&&zdK (vR r) r.Rows.length 0
theorem zXI (x:Row):((x.Ann.length:Int)==(0:Int))= !zeM x:=by
 unfold zeM; rw [Bool.not_not]; exact zrq _ 0
theorem zbeN (z:Int):decide (z≥0)= !decide (z<0):=by
 by_cases h:z<0
 ·rw [decide_eq_true h,decide_eq_false (by omega)]; rfl
 ·rw [decide_eq_false h,decide_eq_true (by omega)]; rfl
theorem z5V (r:Relation) (h:okRel r):zmt r=(true,zov r):=by
 unfold zmt zLr zov;have hl:=h.rows
 have e1024:decide (Int.ofNat r.Rows.length>(1024:Int))=false:=by
  rw [show decide (Int.ofNat r.Rows.length>(1024:Int))=decide (r.Rows.length>1024) from zjp _ 1024]
  exact decide_eq_false (by omega)
 have key:=zcs (W:=zAa) (z:=.inl default) r.Rows.length (λi=>((),r.Rows,(r.Rows.length:Int),(i:Int),())) (λ_=>(r,())) (vR r) (.inl false) (.inr ()) (λi hi H K D=>by
   show (zo9 r.Rows r.Rows.length i r).ev H K D=_;unfold zo9;obtain ⟨k1,k2,k3⟩:=h.row _ (zn hi);unfold vR;cases i with
   | zero=>
    simp only [Wy.ev_i,Wy.ev_k,Wy.ev_h,Wy.ev_bn,Wy.ev_d,tT,hi,z3J _ _ h.cols,k2.valid,zXI,zw (show 0<4611686018427387904 by omega)]
    cases zoS r.Columns (r.Rows.getD 0 default).Values <;>cases zeM (r.Rows.getD 0 default) <;>cases zU (r.Rows.getD 0 default).Ann <;>rfl
   | succ j=>
    have hj:j<r.Rows.length:=by omega
    have e0:decide (((j+1:Nat):Int)>(0:Int))=true:=decide_eq_true (by omega)
    have ew:IntKind.i64.wrap (((j+1:Nat):Int) - (1:Int))=(j:Int):=by rw [zeH (by omega) (by omega)]; omega
    have hc:=zfh (r.Rows.getD j default) (r.Rows.getD (j+1) default) (h.row _ (zn hj)).1;simp only [Wy.ev_i,Wy.ev_k,Wy.ev_h,Wy.ev_bn,Wy.ev_d,tT,hi,hj,z3J _ _ h.cols,k2.valid,zXI,e0,ew,hc,zbeN,zw (show j+1<4611686018427387904 by omega),Nat.add_sub_cancel,Nat.succ_ne_zero,Bool.false_or]
    show _=bif zoS r.Columns (r.Rows.getD (j+1) default).Values&&(zeM (r.Rows.getD (j+1) default)&&(zU (r.Rows.getD (j+1) default).Ann&&decide (zt4 (r.Rows.getD j default).Values (r.Rows.getD (j+1) default).Values<0))) then _ else _
    cases zoS r.Columns (r.Rows.getD (j+1) default).Values <;>cases zeM (r.Rows.getD (j+1) default) <;>cases zU (r.Rows.getD (j+1) default).Ann <;>cases decide (zt4 (r.Rows.getD j default).Values (r.Rows.getD (j+1) default).Values<0) <;>rfl) (λH K D=>by
   show (zo9 r.Rows r.Rows.length r.Rows.length r).ev H K D=_;unfold zo9;simp only [Wy.ev_i,Wy.ev_k,Wy.ev_h,Wy.ev_bn,Wy.ev_d,tT,Nat.lt_irrefl]) (r.Rows.length+(Int.ofNat r.Rows.length).toNat +Int.toNat (0:Int)+r.Columns.length+r.Rows.length+(1000:Nat)) (by omega)
 replace key:zIp (r.Rows.length+(Int.ofNat r.Rows.length).toNat +Int.toNat (0:Int)+r.Columns.length+r.Rows.length+(1000:Nat)) r.Rows (Int.ofNat r.Rows.length) 0 r=_:=key;rw [Wy.fin_bn,zMJ _ h.cols,cond_true,Wy.fin_i];cases zFQ r.Columns with
 | false=>rfl
 | true=>
  rw [Bool.not_true,cond_false,Wy.fin_i,e1024,cond_false,Wy.fin_bn,key];cases zdK (vR r) r.Rows.length 0 <;>rfl
theorem z2W (r:Relation) (h:okRel r):zxg r=(true,zov r):=by
 unfold zxg zTl zov;have hl:=h.rows
 have e1024:decide (Int.ofNat r.Rows.length>(1024:Int))=false:=by
  rw [show decide (Int.ofNat r.Rows.length>(1024:Int))=decide (r.Rows.length>1024) from zjp _ 1024]
  exact decide_eq_false (by omega)
 have key:=zcs (W:=zFA) (z:=.inl default) r.Rows.length (λi=>((),(i:Int),())) (λ_=>(r,())) (vR r) (.inl false) (.inr ()) (λi hi H K D=>by
   show (zuq i r).ev H K D=_;unfold zuq;obtain ⟨k1,k2,k3⟩:=h.row _ (zn hi);unfold vR;cases i with
   | zero=>
    simp only [Wy.ev_i,Wy.ev_k,Wy.ev_h,Wy.ev_bn,Wy.ev_d,tT,hi,zHI _ _ h.cols,k2.rvalid,zXI,zw (show 0<4611686018427387904 by omega)]
    cases zoS r.Columns (r.Rows.getD 0 default).Values <;>cases zeM (r.Rows.getD 0 default) <;>cases zU (r.Rows.getD 0 default).Ann <;>rfl
   | succ j=>
    have hj:j<r.Rows.length:=by omega
    have e0:decide (((j+1:Nat):Int)>(0:Int))=true:=decide_eq_true (by omega)
    have ew:IntKind.i64.wrap (((j+1:Nat):Int) - (1:Int))=(j:Int):=by rw [zeH (by omega) (by omega)]; omega
    have hc:=zvS (r.Rows.getD j default).Values (r.Rows.getD (j+1) default).Values (h.row _ (zn hj)).1;simp only [Wy.ev_i,Wy.ev_k,Wy.ev_h,Wy.ev_bn,Wy.ev_d,tT,hi,hj,zHI _ _ h.cols,k2.rvalid,zXI,e0,ew,hc,zbeN,zw (show j+1<4611686018427387904 by omega),Nat.add_sub_cancel,Nat.succ_ne_zero,Bool.false_or]
    show _=bif zoS r.Columns (r.Rows.getD (j+1) default).Values&&(zeM (r.Rows.getD (j+1) default)&&(zU (r.Rows.getD (j+1) default).Ann&&decide (zt4 (r.Rows.getD j default).Values (r.Rows.getD (j+1) default).Values<0))) then _ else _
    cases zoS r.Columns (r.Rows.getD (j+1) default).Values <;>cases zeM (r.Rows.getD (j+1) default) <;>cases zU (r.Rows.getD (j+1) default).Ann <;>cases decide (zt4 (r.Rows.getD j default).Values (r.Rows.getD (j+1) default).Values<0) <;>rfl) (λH K D=>by
   show (zuq r.Rows.length r).ev H K D=_;unfold zuq;simp only [Wy.ev_i,Wy.ev_k,Wy.ev_h,Wy.ev_bn,Wy.ev_d,tT,Nat.lt_irrefl]) (Int.toNat (0:Int)+r.Columns.length+r.Rows.length+(1:Nat)) (by omega)
 replace key:zO8 (Int.toNat (0:Int)+r.Columns.length+r.Rows.length+(1:Nat)) 0 r=_:=key;rw [Wy.fin_bn,zKp _ h.cols,cond_true,Wy.fin_i];cases zFQ r.Columns with
 | false=>rfl
 | true=>
  rw [Bool.not_true,cond_false,Wy.fin_i,e1024,cond_false,Wy.fin_bn,key];cases zdK (vR r) r.Rows.length 0 <;>rfl
def tyL (l:yH):List Int:=l.map λc=>c.Type_
theorem z7r {a b:yH} (h:a.length=b.length):zdK (λi=>decide ((a.getD i default).Type_=(b.getD i default).Type_)) a.length 0=decide (tyL a=tyL b):=by
 have e:=z33 (a:=tyL a) (b:=tyL b) (by unfold tyL; rw [List.length_map,List.length_map,h])
 rw [<- e,show (tyL a).length=a.length by unfold tyL; rw [List.length_map]]
 refine z2X _ _ λk _ hk=> ?_
 have ga:∀ l:yH,k<l.length->(tyL l).getD k default=(l.getD k default).Type_:=λl hl=>by
  unfold tyL;rw [List.getD_eq_getElem?_getD,List.getD_eq_getElem?_getD,List.getElem?_map,List.getElem?_eq_getElem hl]; rfl
 rw [ga a (by omega),ga b (by omega)]
theorem zbaI {a b:yH} (h:¬ a.length=b.length):¬ tyL a=tyL b:=λe=>by
 have:=congrArg List.length e;unfold tyL at this;rw [List.length_map,List.length_map] at this;exact h this
theorem zbd0 (a b:yH) (ha:a.length<=1000000):zAP a b=(true,decide (tyL a=tyL b)):=by
 unfold zAP zTk;rw [Wy.fin_i,zpE,zBH];by_cases he:a.length=b.length
 ·have key:=zcs (W:=zFm) (z:=.inl default) a.length (λi=>(a,b,(i:Int),())) (λ_=>()) (λi=>decide ((a.getD i default).Type_=(b.getD i default).Type_)) (.inl false) (.inr ()) (λi hi H K D=>by
    show (zun a b i).ev H K D=_;unfold zun;have hi':i<b.length:=by omega
    simp only [Wy.ev_i,Wy.ev_k,Wy.ev_h,Wy.ev_bn,Wy.ev_d,tT,hi,hi',zpE,zw (show i<4611686018427387904 by omega)]
    cases decide ((a.getD i default).Type_=(b.getD i default).Type_) <;>rfl) (λH K D=>by
    show (zun a b a.length).ev H K D=_;unfold zun;simp only [Wy.ev_i,Wy.ev_k,Wy.ev_h,Wy.ev_bn,Wy.ev_d,tT,Nat.lt_irrefl]) (a.length+b.length+Int.toNat (0:Int)+(1:Nat)) (by omega)
  replace key:zP5 (a.length+b.length+Int.toNat (0:Int)+(1:Nat)) a b 0=_:=key;rw [decide_eq_true he,Bool.not_true,cond_false,Wy.fin_bn,key,z7r he];cases decide (tyL a=tyL b) <;>rfl
 ·rw [decide_eq_false he,decide_eq_false (zbaI he)]; rfl
theorem z8Q (a b:yH) (ha:a.length<=1000000):znd a b=(true,decide (tyL a=tyL b)):=by
 unfold znd zEb zb1 zeu;rw [Wy.fin_bn,Wy.fin_i,zpE,zBH];by_cases he:a.length=b.length
 ·have key:=zcs (W:=zcB) (z:=.inl default) a.length (λi=>(b,(),a,(a.length:Int),(i:Int),())) (λ_=>()) (λi=>decide ((a.getD i default).Type_=(b.getD i default).Type_)) (.inl false) (.inr ()) (λi hi H K D=>by
    show (zbx b a a.length i).ev H K D=_;unfold zbx;have hi':i<b.length:=by omega
    have hc:(znI (a.getD i default) (b.getD i default)).2=decide ((a.getD i default).Type_=(b.getD i default).Type_):=zf8 _ _;simp only [Wy.ev_i,Wy.ev_k,Wy.ev_h,Wy.ev_bn,Wy.ev_d,tT,hi,hi',hc,zw (show i<4611686018427387904 by omega)]
    cases decide ((a.getD i default).Type_=(b.getD i default).Type_) <;>rfl) (λH K D=>by
    show (zbx b a a.length a.length).ev H K D=_;unfold zbx;simp only [Wy.ev_i,Wy.ev_k,Wy.ev_h,Wy.ev_bn,Wy.ev_d,tT,Nat.lt_irrefl]) (b.length+a.length+(Int.ofNat a.length).toNat +Int.toNat (0:Int)+(1000:Nat)) (by omega)
  replace key:zet (b.length+a.length+(Int.ofNat a.length).toNat +Int.toNat (0:Int)+(1000:Nat)) b a (Int.ofNat a.length) 0=_:=key;rw [decide_eq_true he,Bool.not_true,cond_false,Wy.fin_bn,key,z7r he];cases decide (tyL a=tyL b) <;>rfl
 ·rw [decide_eq_false he,decide_eq_false (zbaI he)]; rfl
theorem zbh6 (n:Nat) (h:n<=4000000):zfv (n:Int)=(true,[]):=by
 have hreach:zA=70368744177664:=rfl;unfold zfv zsw;have e0:IntKind.i64.wrap ((0:Int) - 0)=0:=rfl;have e1:IntKind.i64.wrap ((n:Int) - 0)=(n:Int):=by rw [zeH (by omega) (by omega)]; omega
 have e2:decide ((n:Int)<0)=false:=decide_eq_false (by omega)
 rw [Wy.fin_i,e2,cond_false,e0,e1];by_cases hn:(n:Int)>0
 ·have e3:(true&&(decide ((n:Int)*Int.ofNat (48:Nat)<=Int.ofNat zA)&&(decide ((n:Int)<=Int.ofNat zA)&& !Nat.beq (2:Nat) (0:Nat))))=true:=by
   simp only [qc,qe,Int.ofNat_eq_natCast];exact ⟨trivial,by rw [hreach]; omega,by rw [hreach]; omega,rfl⟩
  rw [Wy.fin_i,decide_eq_true hn,cond_true,Wy.fin_i,e3,cond_true,Wy.fin_k];simp
 ·rw [Wy.fin_i,decide_eq_false hn]; rfl
theorem zbdn (ls:List (yF)) (hn:ls.length<=10) (h:∀ l∈ls,l.length<=300000):zdT ls=(true,ls.flatten):=by
 have hreach:zA=70368744177664:=rfl;unfold zdT zq8;have e:∀ l:yF,l∈ls->l.length<=300000:=h
 have h1:=zcy (W:=zjr) (z:=default) (l:=ls) (λi (n:Nat)=>(ls,(n:Int),ls,(ls.length:Int),(i:Int),())) (λ_ _=>()) (λy n=>.inl (n+y.length)) (λn=>(ls,(n:Int))) (λi n=>n<=i*300000)
  (λi n hi hI=>.inl ⟨_,rfl,by have:=e _ (zn hi); omega,λH K D=>by
   show (zel ls n ls ls.length i).ev H K D=_;unfold zel;have hle:=e _ (zn hi);have hw:IntKind.i64.wrap ((n:Int)+((ls.getD i default).length:Int))=((n+(ls.getD i default).length:Nat):Int):=zmk (by omega)
   simp only [Wy.ev_i,Wy.ev_k,Wy.ev_h,Wy.ev_bn,Wy.ev_d,tT,hi,hw];have h0:decide (((n+(ls.getD i default).length:Nat):Int)<0)=false:=decide_eq_false (by omega)
   rw [h0,zw (by omega)]; rfl⟩)
  (λn hI H K D=>by
   show (zel ls n ls ls.length ls.length).ev H K D=_;unfold zel;simp only [Wy.ev_i,Wy.ev_k,tT,Nat.lt_irrefl]) (ls.length+Int.toNat (0:Int)+ls.length+(Int.ofNat ls.length).toNat +Int.toNat (0:Int)+(1000:Nat)) 0 0 (by omega) (by omega) (by omega)
 rw [List.drop_zero,zcz] at h1;have h1:zpW (ls.length+Int.toNat (0:Int)+ls.length+(Int.ofNat ls.length).toNat +Int.toNat (0:Int)+(1000:Nat)) ls 0 ls (Int.ofNat ls.length) 0=_:=h1
 have hb:∀ (r:List (yF)) (n:Nat),(∀ l∈r,l.length<=300000)->r.foldl (λn (y:yF)=>n+y.length) n<=n+r.length*300000:=λr=>by
  induction r with
  | nil=>intro n _; simp
  | cons y r ih=>
   intro n hr;have q1:=ih (n+y.length) λl hl=>hr l (by simp [hl])
   have q2:=hr y (by simp)
   rw [List.foldl_cons,qf]; omega
 have hsz:=hb ls 0 h
 have h2:=zcy (W:=ziY) (z:=default) (l:=ls) (λi (out:yF)=>((),ls,(ls.length:Int),(i:Int),())) (λ_ out=>(out,())) (λy out=>.inl (out++y)) (λout=>out) (λi out=>out.length<=i*300000)
  (λi out hi hI=>.inl ⟨_,rfl,by have:=e _ (zn hi); simp only [qg]; omega,λH K D=>by
   show (zeb ls ls.length i out).ev H K D=_;unfold zeb;have hle:=e _ (zn hi);have hr:decide ((out.length+(ls.getD i default).length)*48<=zA)=true:=by simp only [qe]; omega
   simp only [Wy.ev_i,Wy.ev_k,Wy.ev_h,Wy.ev_bn,Wy.ev_d,tT,hi,hr];rw [zw (by omega)]⟩)
  (λout hI H K D=>by
   show (zeb ls ls.length ls.length out).ev H K D=_;unfold zeb;simp only [Wy.ev_i,Wy.ev_k,tT,Nat.lt_irrefl]) (ls.length+(Int.ofNat ls.length).toNat +Int.toNat (0:Int)+([]:yF).length+(1000:Nat)) 0 [] (by omega) (by omega) (by simp)
 rw [List.drop_zero,zcz] at h2;have h2:zoT (ls.length+(Int.ofNat ls.length).toNat +Int.toNat (0:Int)+([]:yF).length+(1000:Nat)) ls (Int.ofNat ls.length) 0 []=_:=h2
 have hf:∀ (r:List (yF)) (out:yF),r.foldl (λout y=>out++y) out=out++r.flatten:=λr=>by
  induction r with
  | nil=>intro out; simp
  | cons y r ih=>intro out; rw [List.foldl_cons,ih,List.flatten_cons,List.append_assoc]
 rw [Wy.fin_bn,h1,cond_true];simp only [Wy.fin_bn,zbh6 _ (show ls.foldl (λn (y:yF)=>n+y.length) 0<=4000000 by have:=Nat.mul_le_mul hn (Nat.le_refl 300000); omega),cond_true,h2,Wy.fin_k]
 rw [hf]; simp
theorem zbfM (a b:yF) (ha:a.length<=1000) (hb:b.length<=1000):zdT [a,b]=(true,a++b):=by
 rw [zbdn [a,b] (by simp) (λl hl=>by
  simp only [qd,List.not_mem_nil,or_false] at hl;rcases hl with rfl | rfl <;>omega)]
 simp
def zGv (a b:Relation):Relation×Int:=bif !zov a then (⟨[],[]⟩,1) else bif !zov b then (⟨[],[]⟩,1) else bif !decide (tyL a.Columns=tyL b.Columns) then (⟨[],[]⟩,7) else zt7 ⟨a.Columns,a.Rows++b.Rows⟩
theorem z5W {a b:Relation} (ha:okRel a) (hb:okRel b) (h:a.Rows.length+b.Rows.length<20):okRel ⟨a.Columns,a.Rows++b.Rows⟩ where
 cols:=ha.cols
 rows:=by show (a.Rows++b.Rows).length<20; rw [qg]; exact h
 row:=λx hx=>by
  rcases List.mem_append.1 hx with hx | hx
  ·exact ha.row x hx
  ·exact hb.row x hx
theorem z5x {a b:Relation} (ha:okRel a) (hb:okRel b) (h:a.Rows.length+b.Rows.length<20):zy1 a b=(true,zGv a b)/\zGD a b=(true,zGv a b):=by
 have ok:=z5W ha hb h;have la:=ha.rows;have lb:=hb.rows;constructor
 ·unfold zy1 zO3 zGv;rw [Wy.fin_bn,z5V a ha,cond_true,Wy.fin_i];cases zov a with
  | false=>rfl
  | true=>
   rw [Bool.not_true,cond_false,cond_false,Wy.fin_bn,z5V b hb,cond_true,Wy.fin_i];cases zov b with
   | false=>rfl
   | true=>
    rw [Bool.not_true,cond_false,cond_false,Wy.fin_bn,z8Q _ _ ha.cols,cond_true,Wy.fin_i];cases decide (tyL a.Columns=tyL b.Columns) with
    | false=>rfl
    | true=>
     rw [Bool.not_true,cond_false,cond_false,Wy.fin_bn,zbfM _ _ (by omega) (by omega),cond_true,Wy.fin_bn,zLD _ ok]; rfl
 ·unfold zGD zZo zGv;have r1:decide (((0:Nat)+a.Rows.length)*(48:Nat)<=zA)=true:=decide_eq_true (zqD (by omega) (by omega))
  have r2:decide ((([]++a.Rows).length+b.Rows.length)*(48:Nat)<=zA)=true:=decide_eq_true (zqD (by simp; omega) (by omega))
  rw [Wy.fin_bn,z2W a ha,cond_true,Wy.fin_i];cases zov a with
  | false=>rfl
  | true=>
   rw [Bool.not_true,cond_false,cond_false,Wy.fin_bn,z2W b hb,cond_true,Wy.fin_i];cases zov b with
   | false=>rfl
   | true=>
    rw [Bool.not_true,cond_false,cond_false,Wy.fin_bn,zbd0 _ _ ha.cols,cond_true,Wy.fin_i];cases decide (tyL a.Columns=tyL b.Columns) with
    | false=>rfl
    | true=>
     rw [Bool.not_true,cond_false,cond_false,Wy.fin_i,r1,cond_true,Wy.fin_i,r2,cond_true,Wy.fin_bn];rw [show ([]++a.Rows++b.Rows)=a.Rows++b.Rows from rfl,zHH _ ok]; rfl
end Go.Proofs.YtoknknbmfmddbaaGreatDoor
/- The law of the normal form of relations. -/
set_option maxRecDepth 100000
namespace Go.Proofs.YtoknknbmfmddbaaGreatDoor
open Go Go.Ab
theorem zU8 {x:Relation} {e:Int} (h:x.Columns.length<=1000000/\x.Rows.length<=1000000/\∀ y∈x.Rows,y.Values.length<=1000000/\okA y.Ann):zwi x e x e=(true,true):=by
 unfold zwi zV5;rw [Wy.fin_i,beq_self_eq_true,cond_true,Wy.fin_bn,zbcS _ _ h.1 h.2.1 h.2.2,decide_eq_true rfl]; rfl
theorem zbc4 {a b:Relation} (ha:okRel a) (hb:okRel b) (h:a.Rows.length+b.Rows.length<20):(zGv a b).1.Columns.length<=1000000/\(zGv a b).1.Rows.length<=1000000/\∀ y∈(zGv a b).1.Rows,y.Values.length<=1000000/\okA y.Ann:=by
 have z:∀ n:Int,(((⟨[],[]⟩:Relation),n).1.Columns.length<=1000000)/\((⟨[],[]⟩:Relation),n).1.Rows.length<=1000000/\∀ y∈((⟨[],[]⟩:Relation),n).1.Rows,y.Values.length<=1000000/\okA y.Ann:=λn=>⟨by simp,by simp,λx hx=>by cases hx⟩
 unfold zGv;cases zov a with
 | false=>exact z 1
 | true=>
  cases zov b with
  | false=>exact z 1
  | true=>
   cases decide (tyL a.Columns=tyL b.Columns) with
   | false=>exact z 7
   | true=>exact zZM (z5W ha hb h)
theorem zUt (a b:Relation) (ha:z8f a) (hb:z8f b):zey a b=(true,true):=by
 have l12:∀ x y,okRel a->okRel b->a.Rows.length+b.Rows.length<20->zrL 1 a b x y=(true,true):=λx y oa ob h=>by
  show (zkv a b x y).ev (zB zkt default 0) (λr=>(true,r)) (false,default)=_
  unfold zkv;simp only [Wy.ev_bn,Wy.ev_k,(z5x oa ob h).1,(z5x oa ob h).2,zU8 (zbc4 oa ob h),cond_true]
 have l9:∀ x,okRel a->okRel b->a.Rows.length+b.Rows.length<20->zsY 1 (zt7 a).2 a b x (zt7 a).1=(true,true):=λx oa ob h=>by
  show (zkJ (zt7 a).2 a b x (zt7 a).1).ev (zB zlh default 0) (λr=>(true,r)) (false,default)=_
  unfold zkJ;have bb:=(zbe5 ⟨3,ByteArray.mk #[],a.Columns,a.Rows⟩ oa).1;replace bb:zso ⟨3,ByteArray.mk #[],a.Columns,a.Rows⟩=(true,zt7 a):=bb;simp only [Wy.ev_i,Wy.ev_bn,Wy.ev_k,bb,zU8 (zZM oa),cond_true,Bool.not_true,cond_false,l12 _ _ oa ob h]
 have l5:okRel a->okRel b->a.Rows.length+b.Rows.length<20->ztn 1 a b=(true,true):=λoa ob h=>by
  show (zkN a b).ev (zB zkZ default 0) (λr=>(true,r)) (false,default)=_
  unfold zkN;simp only [Wy.ev_i,Wy.ev_bn,Wy.ev_k,zLD a oa,zHH a oa,zU8 (zZM oa),cond_true,Bool.not_true,cond_false,l9 _ oa ob h]
 have l3:ztl 1 a b=(true,true):=by
  show (zkE a b).ev (zB zll default 0) (λr=>(true,r)) (false,default)=_
  unfold zkE
  obtain ⟨q,q1,q2⟩:=zbiu 8 30 [a,b] (by omega) (by omega) (by simp) (λr hr=>by
   simp only [qd,List.not_mem_nil,or_false] at hr;rcases hr with rfl | rfl
   ·exact ha
   ·exact hb)
  replace q1:zB0 (8:Int) (30:Int) [a,b]=(true,q):=q1;rw [Wy.ev_bn,q1,cond_true];cases q with
  | false=>rfl
  | true=>
   have sa:=q2 rfl a (by simp)
   have sb:=q2 rfl b (by simp)
   have h1:=sa.rows;have h2:=sb.rows;rw [Wy.ev_i,Bool.not_true,cond_false,Wy.ev_bn,l5 (sa.ok (by omega) (by omega)) (sb.ok (by omega) (by omega)) (by omega)]; rfl
 unfold zey ztX;rw [Wy.fin_bn,l3]; rfl
end Go.Proofs.YtoknknbmfmddbaaGreatDoor
end
