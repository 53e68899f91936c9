/- Texts of this claim, joined (the program, its functions in plain words, and what they compute). -/
import Derived.Test.YtoknknbmfmddbaaGreatDoorGC11
set_option autoImplicit false
set_option linter.unusedVariables false
set_option linter.unusedSectionVars false
set_option linter.unusedSimpArgs false
set_option maxRecDepth 1000000
set_option maxHeartbeats 0
/- Relations: the guards of the laws. -/
set_option maxRecDepth 100000
noncomputable section
namespace Go.Proofs.YtoknknbmfmddbaaGreatDoor
open Go Go.Ab
theorem zbgY {n:Nat} (hn:n<=1000) {a:yB} (ha:z5S a):∃ q,zAT (n:Int) [a]=(true,q)/\(q=true->okA a/\zd8 a<=n):=by
 obtain ⟨q,h1,h2⟩:=zbfH n hn [a] (by simp) (λx hx=>by rw [qh] at hx; subst hx; exact ha)
 exact ⟨q,h1,λh=>⟨zbeN hn (h2 h a (by simp)) ha,(h2 h a (by simp)).2⟩⟩
structure smRel (rows w:Nat) (r:Relation):Prop where
 rows:r.Rows.length<=rows
 cols:r.Columns.length<=20
 row:∀ x∈r.Rows,(x.Values.length<=20/\∀ v∈x.Values,v.Text.size<=300)/\okA x.Ann/\zd8 x.Ann<=w
section
variable (rows w:Nat) (l:List Relation)
theorem zbfM (i:Nat) (hi:i<l.length) (hc:(l.getD i default).Columns.length<=20):∀ (n k:Nat),(l.getD i default).Columns.length<k+n->k<=(l.getD i default).Columns.length->∃ r,zVn n rows w l i k=(true,r)/\(r=.inl false\/r=.inr ((rows:Int),(w:Int),l,(i:Int)))
 | 0,k,h,h2=>by omega
 | n+1,k,h,h2=>by
  show ∃ r,(zJD rows w l i k).ev (zA zJw (.inl default) n) (λr=>(true,r)) (false,.inl default)=(true,r)/\_
  unfold zJD;by_cases hk:k<(l.getD i default).Columns.length
  ·simp only [Wy.ev_i,Wy.ev_k,Wy.ev_h,Wy.ev_d,tT,hi,hk];generalize decide (_>(100:Int))=q;cases q with
   | true=>exact ⟨_,rfl,.inl rfl⟩
   | false=>
    rw [cond_false,zD (by omega)]
    exact zbfM i hi hc n (k+1) (by omega) (by omega)
  ·simp only [Wy.ev_i,Wy.ev_k,Wy.ev_h,Wy.ev_d,tT,hi,hk];exact ⟨_,rfl,.inr rfl⟩
theorem zbdn (hw:w<=1000) (i:Nat) (hi:i<l.length) (hr:(l.getD i default).Rows.length<=1000) (hwf:∀ x∈(l.getD i default).Rows,zbc1 x):∀ (n k:Nat),(l.getD i default).Rows.length<k+n->k<=(l.getD i default).Rows.length->
  ∃ r,zRY n rows w l i k=(true,r)/\(r=.inl false\/(r=.inr ((rows:Int),(w:Int),l,(i:Int))/\∀ x∈(l.getD i default).Rows.drop k,(x.Values.length<=20/\∀ v∈x.Values,v.Text.size<=300)/\okA x.Ann/\zd8 x.Ann<=w))
 | 0,k,h,h2=>by omega
 | n+1,k,h,h2=>by
  show ∃ r,(zGI rows w l i k).ev (zA zF9 (.inl default) n) (λr=>(true,r)) (false,.inl default)=(true,r)/\_
  unfold zGI;by_cases hk:k<(l.getD i default).Rows.length
  ·have hx:=hwf _ (zn hk);obtain ⟨b,b1,b2⟩:=z6L ((l.getD i default).Rows.getD k default).Values 20 hx.1.2;obtain ⟨q,q1,q2⟩:=zbgY hw (a:=((l.getD i default).Rows.getD k default).Ann) hx.2;replace b1:zpc ((l.getD i default).Rows.getD k default).Values (20:Int)=(true,b):=b1;simp only [Wy.ev_i,Wy.ev_k,Wy.ev_h,Wy.ev_bn,Wy.ev_d,tT,hi,hk,b1,q1];cases b with
   | false=>exact ⟨_,rfl,.inl rfl⟩
   | true=>
    cases q with
    | false=>exact ⟨_,rfl,.inl rfl⟩
    | true=>
     rw [zD (by omega)]
     obtain ⟨r,h3,h4⟩:=zbdn hw i hi hr hwf n (k+1) (by omega) (by omega)
     refine ⟨r,h3,h4.imp_right λh4=>⟨h4.1,λx hx=> ?_⟩⟩
     rw [zbf hk] at hx;rcases qd.1 hx with rfl | hx
     ·exact ⟨b2 rfl,q2 rfl⟩
     ·exact h4.2 x hx
  ·simp only [Wy.ev_i,Wy.ev_k,Wy.ev_h,Wy.ev_d,tT,hi,hk];exact ⟨_,rfl,.inr ⟨rfl,λx hx=>by rw [zce hk] at hx; cases hx⟩⟩
theorem zbfl (hrs:rows<=100) (hw:w<=1000) (hl:l.length<=1000) (hwf:∀ r∈l,zbbR r):∀ (n i:Nat),l.length<i+n->i<=l.length->
  ∃ r,zUG n rows w l i=(true,r)/\(r=.inl false\/(r=.inr ()/\∀ x∈l.drop i,smRel rows w x))
 | 0,i,h,h2=>by omega
 | n+1,i,h,h2=>by
  show ∃ r,(zJc rows w l i).ev (zA zI6 (.inl default) n) (λr=>(true,r)) (false,.inl default)=(true,r)/\_
  unfold zJc;by_cases hi:i<l.length
  ·have hwr:=hwf _ (zn hi);have e2:decide ((((l.getD i default).Columns.length:Nat):Int)>(20:Int))=decide ((l.getD i default).Columns.length>20):=zjD _ 20;simp only [Wy.ev_i,Wy.ev_k,Wy.ev_h,Wy.ev_d,tT,hi];rw [e2];by_cases h3:rows<(l.getD i default).Rows.length
   ·rw [decide_eq_true h3]; exact ⟨_,rfl,.inl rfl⟩
   by_cases h4:(l.getD i default).Columns.length>20
   ·rw [decide_eq_false h3,decide_eq_true h4]; exact ⟨_,rfl,.inl rfl⟩
   rw [decide_eq_false h3,decide_eq_false h4,cond_false,cond_false];obtain ⟨r7,a1,a2⟩:=zbfM rows w l i hi (by omega) ((rows:Int).toNat +(w:Int).toNat +l.length+i+Int.toNat (0:Int)+(1000:Nat)) 0 (by omega) (by omega)
   rw [show ((0:Nat):Int)=(0:Int) from rfl] at a1
   simp only [Int.toNat_natCast] at a1;simp only [Wy.ev_bn,a1,cond_true];rcases a2 with rfl | rfl
   ·exact ⟨_,rfl,.inl rfl⟩
   ·obtain ⟨r12,b1,b2⟩:=zbdn rows w l hw i hi (by omega) hwr.2.1 ((rows:Int).toNat +(w:Int).toNat +l.length+(i:Int).toNat +Int.toNat (0:Int)+(1000:Nat)) 0 (by omega) (by omega)
    rw [show ((0:Nat):Int)=(0:Int) from rfl] at b1
    simp only [Wy.ev_i,Wy.ev_k,Wy.ev_h,Wy.ev_bn,isL,getL,getR,cond_false,b1,cond_true];rcases b2 with rfl | ⟨rfl,b3⟩
    ·exact ⟨_,rfl,.inl rfl⟩
    ·simp only [isL,getL,getR,cond_false,zD (show i<4611686018427387904 by omega)]
     obtain ⟨r,c1,c2⟩:=zbfl hrs hw hl hwf n (i+1) (by omega) (by omega)
     refine ⟨r,c1,c2.imp_right λc2=>⟨c2.1,λx hx=> ?_⟩⟩
     rw [zbf hi] at hx;rcases qd.1 hx with rfl | hx
     ·rw [List.drop_zero] at b3;exact ⟨by omega,by omega,b3⟩
     ·exact c2.2 x hx
  ·simp only [Wy.ev_i,Wy.ev_k,Wy.ev_h,Wy.ev_d,tT,hi];exact ⟨_,rfl,.inr ⟨rfl,λx hx=>by rw [zce hi] at hx; cases hx⟩⟩
theorem zbgV (hrs:rows<=100) (hw:w<=1000) (hl:l.length<=1000) (hwf:∀ r∈l,zbbR r):∃ q,zBf rows w l=(true,q)/\(q=true->∀ r∈l,smRel rows w r):=by
 unfold zBf zX2;obtain ⟨r,h1,h2⟩:=zbfl rows w l hrs hw hl hwf ((rows:Int).toNat +(w:Int).toNat +l.length+Int.toNat (0:Int)+(1000:Nat)) 0 (by omega) (by omega)
 rw [show ((0:Nat):Int)=(0:Int) from rfl] at h1
 rw [Wy.fin_bn,h1];rcases h2 with rfl | ⟨rfl,h2⟩
 ·exact ⟨false,rfl,λh=>by cases h⟩
 ·exact ⟨true,rfl,λ_=>by rw [List.drop_zero] at h2; exact h2⟩
end
theorem smRel.ok {rows w:Nat} {r:Relation} (h:smRel rows w r) (hr:rows<20) (hw:w<=38):okRel r where
 cols:=by have:=h.cols; omega
 rows:=by have:=h.rows; omega
 row:=λx hx=>⟨by have:=(h.row x hx).1.1; omega,(h.row x hx).2.1,λhv=>zZh 100 x.Ann hv (by have:=(h.row x hx).2.2; omega)⟩
end Go.Proofs.YtoknknbmfmddbaaGreatDoor
/- Relations compared; tables of named rows. -/
set_option maxRecDepth 100000
namespace Go.Proofs.YtoknknbmfmddbaaGreatDoor
open Go Go.Ab
theorem z9A {τ:Type} [Inhabited τ] [DecidableEq τ] {a b:List τ} (h:a.length=b.length):zeo (λi=>decide (a.getD i default=b.getD i default)) a.length 0=decide (a=b):=by
 by_cases e:a=b
 ·subst e;rw [decide_eq_true rfl];exact zdP.2 λk _ _=>by simp
 ·rw [decide_eq_false e];cases hc:zeo (λi=>decide (a.getD i default=b.getD i default)) a.length 0 with
  | false=>rfl
  | true=>
   refine absurd (List.ext_getElem h λi h1 h2=> ?_) e
   have:=zdP.1 hc i (by omega) (by omega)
   rw [qe,List.getD_eq_getElem?_getD,List.getD_eq_getElem?_getD,List.getElem?_eq_getElem h1,List.getElem?_eq_getElem h2] at this;exact this
theorem zbge (x y:Column):(x.Name.toList==y.Name.toList&&x.Type_==y.Type_)=decide (x=y):=by
 rw [zBh,zga];cases x; cases y;simp only [Column.mk.injEq];exact (Bool.decide_and _ _).symm
theorem zNY (a b:yH) (ha:a.length<=1000000):zkK a b=(true,decide (a=b)):=by
 unfold zkK zDl;rw [Wy.fin_i,zsY,zJQ];by_cases he:a.length=b.length
 ·have key:=zcY (W:=zuL) (z:=.inl default) a.length (λi=>(a,b,(i:Int),())) (λ_=>()) (λi=>decide (a.getD i default=b.getD i default)) (.inl false) (.inr ()) (λi hi H K D=>by
    show (zkd a b i).ev H K D=_;unfold zkd;have hi':i<b.length:=by omega
    simp only [Wy.ev_i,Wy.ev_k,Wy.ev_h,Wy.ev_bn,Wy.ev_d,tT,hi,hi',zbge,zD (show i<4611686018427387904 by omega)]
    cases decide (a.getD i default=b.getD i default) <;>rfl) (λH K D=>by
    show (zkd a b a.length).ev H K D=_;unfold zkd;simp only [Wy.ev_i,Wy.ev_k,Wy.ev_h,Wy.ev_bn,Wy.ev_d,tT,Nat.lt_irrefl]) (a.length+b.length+Int.toNat (0:Int)+(1:Nat)) (by omega)
  replace key:zBU (a.length+b.length+Int.toNat (0:Int)+(1:Nat)) a b 0=_:=key;rw [decide_eq_true he,Bool.not_true,cond_false,Wy.fin_bn,key,z9A he];cases decide (a=b) <;>rfl
 ·rw [decide_eq_false he,decide_eq_false (show ¬ a=b from λe=>he (by rw [e]))]; rfl
theorem zbgC (x y:Row):(decide (x.Values=y.Values)&&decide (x.Ann=y.Ann))=decide (x=y):=by
 cases x; cases y;simp only [Row.mk.injEq];exact (Bool.decide_and _ _).symm
theorem zXU (a b:yF) (ha:a.length<=1000000) (h:∀ x∈a,x.Values.length<=1000000/\okA x.Ann):zpt a b=(true,decide (a=b)):=by
 unfold zpt zIB;rw [Wy.fin_i,zsY,zJQ];by_cases he:a.length=b.length
 ·have key:=zcY (W:=zzc) (z:=.inl default) a.length (λi=>(a,b,(i:Int),())) (λ_=>()) (λi=>decide (a.getD i default=b.getD i default)) (.inl false) (.inr ()) (λi hi H K D=>by
    show (zn7 a b i).ev H K D=_;unfold zn7;have hi':i<b.length:=by omega
    obtain ⟨k1,k2⟩:=h _ (zn hi);have ks:zoS (a.getD i default).Ann (b.getD i default).Ann=(true,decide ((a.getD i default).Ann=(b.getD i default).Ann)):=zGK k2.1.1 (by omega) _
    simp only [Wy.ev_i,Wy.ev_k,Wy.ev_h,Wy.ev_bn,Wy.ev_d,tT,hi,hi',zRJ _ (b.getD i default).Values k1,ks,zD (show i<4611686018427387904 by omega)]
    rw [<- zbgC];cases decide ((a.getD i default).Values=(b.getD i default).Values) <;>cases decide ((a.getD i default).Ann=(b.getD i default).Ann) <;>rfl) (λH K D=>by
    show (zn7 a b a.length).ev H K D=_;unfold zn7;simp only [Wy.ev_i,Wy.ev_k,Wy.ev_h,Wy.ev_bn,Wy.ev_d,tT,Nat.lt_irrefl]) (a.length+b.length+Int.toNat (0:Int)+(1:Nat)) (by omega)
  replace key:zG2 (a.length+b.length+Int.toNat (0:Int)+(1:Nat)) a b 0=_:=key;rw [decide_eq_true he,Bool.not_true,cond_false,Wy.fin_bn,key,z9A he];cases decide (a=b) <;>rfl
 ·rw [decide_eq_false he,decide_eq_false (show ¬ a=b from λe=>he (by rw [e]))]; rfl
theorem zbbi (a b:Relation) (hc:a.Columns.length<=1000000) (ha:a.Rows.length<=1000000) (h:∀ x∈a.Rows,x.Values.length<=1000000/\okA x.Ann):zBX a b=(true,decide (a=b)):=by
 unfold zBX zV4;rw [Wy.fin_bn,zNY _ _ hc,cond_true,Wy.fin_i,Wy.fin_bn,zXU _ _ ha h]
 have e:decide (a=b)=(decide (a.Columns=b.Columns)&&decide (a.Rows=b.Rows)):=by
  cases a; cases b;simp only [Relation.mk.injEq];exact Bool.decide_and _ _
 rw [e];cases decide (a.Columns=b.Columns) <;>rfl
theorem zbcC {r:Relation} (h:okRel r):(zwU r).1.Columns.length<=1000000/\(zwU r).1.Rows.length<=1000000/\∀ x∈(zwU r).1.Rows,x.Values.length<=1000000/\okA x.Ann:=by
 unfold zwU;split
 ·exact ⟨by simp,by simp,λx hx=>by cases hx⟩
 ·split
  ·rename_i hk;have hv:=zHH hk
   have hfm:∀ x∈r.Rows.filter zhz,zoC x:=λx hx=>by
    have hm:=(List.mem_filter.1 hx).1;obtain ⟨k1,k2,k3⟩:=h.row x hm;exact ⟨k1,k2,(hv x hm).2⟩
   have go:∀ (l M N:yF),(∀ w∈M,zoC w)->(∀ x∈l,zoC x)->l.foldl (λo x=>o.bind λM=>zgQ cR zeD M x) (some M)=some N->∀ w∈N,zoC w:=by
    intro l;induction l with
    | nil=>intro M N k _ e; rw [List.foldl_nil,qa] at e; subst e; exact k
    | cons x l ih=>
     intro M N k u e;rw [List.foldl_cons,Option.bind_some] at e;cases e1:zgQ cR zeD M x with
     | none=>rw [e1,zUF] at e; cases e
     | some K=>
      rw [e1] at e;exact ih K N (z8L k (u x (by simp)) e1) (λy hy=>u y (by simp [hy])) e
   cases e:(r.Rows.filter zhz).foldl (λo x=>o.bind λM=>zgQ cR zeD M x) (some []) with
   | none=>exact ⟨by simp,by simp,λx hx=>by cases hx⟩
   | some M=>
    have h1:=zRa e;have h2:(r.Rows.filter zhz).length<=r.Rows.length:=List.length_filter_le _ _;have h3:=h.rows
    exact ⟨h.cols,by simp at h1; show M.length<=_; omega,λx hx=>by
     have:=go _ [] M (λw hw=>by cases hw) hfm e x hx
     exact ⟨this.1,this.2.1⟩⟩
  ·exact ⟨by simp,by simp,λx hx=>by cases hx⟩
def zoh (id:Int) (rows:List (yG)):yF:=(List.range rows.length).map λi=>⟨rows.getD i default,zjm ⟨id,((i+1:Nat):Int)⟩⟩
theorem zXJ (id:Int) (rows:List (yG)) (i:Nat):((List.range (i+1)).map λi=>(⟨rows.getD i default,zjm ⟨id,((i+1:Nat):Int)⟩⟩:Row))=((List.range i).map λi=>(⟨rows.getD i default,zjm ⟨id,((i+1:Nat):Int)⟩⟩:Row))++[⟨rows.getD i default,zjm ⟨id,((i+1:Nat):Int)⟩⟩]:=by
 rw [List.range_succ,List.map_append]; rfl
theorem z6w (id:Int) (rows:List (yG)) (hr:rows.length<=1000) (hv:∀ v∈rows,v.length<=1000000) (a:Int) (b:ByteArray) (c:Int) (d:ByteArray) (cols:yH):∀ (n i:Nat),rows.length<i+n->i<=rows.length->
  zzf n id rows rows.length i a b c d cols ((List.range i).map λi=>(⟨rows.getD i default,zjm ⟨id,((i+1:Nat):Int)⟩⟩:Row))=(true,(a,b,c,d,cols,zoh id rows))
 | 0,i,h1,h2=>by omega
 | n+1,i,h1,h2=>by
  show (zzj id rows rows.length i a b c d cols ((List.range i).map λi=>(⟨rows.getD i default,zjm ⟨id,((i+1:Nat):Int)⟩⟩:Row))).ev (zA zy7 default n) (λr=>(true,r)) (false,default)=_
  unfold zzj;by_cases hi:i<rows.length
  ·have hcl:zcr (rows.getD i default)=(true,rows.getD i default):=by
    unfold zcr;rw [decide_eq_true (zlI (by have:=hv _ (zn hi); omega) (by omega))]
   have hb:∀ x:Row,decide ((((List.range i).map λi=>(⟨rows.getD i default,zjm ⟨id,((i+1:Nat):Int)⟩⟩:Row)).length+[x].length)*(48:Nat)<=zF)=true:=λx=>decide_eq_true (zlI (by simp; omega) (by omega))
   simp only [Wy.ev_i,Wy.ev_k,Wy.ev_h,Wy.ev_bn,Wy.ev_d,tT,hi,hcl,(z6a _).1,hb,zD (show i<4611686018427387904 by omega), <- zXJ]
   exact z6w id rows hr hv a b c d cols n (i+1) (by omega) (by omega)
  ·have:i=rows.length:=by omega
   subst this;simp only [Wy.ev_i,Wy.ev_k,Wy.ev_h,Wy.ev_bn,Wy.ev_d,tT,Nat.lt_irrefl];rfl
theorem zbcG (id:Int) (cols:yH) (rows:List (yG)) (hc:cols.length<=1000000) (hr:rows.length<=1000) (hv:∀ v∈rows,v.length<=1000000):ztv id cols rows=(true,⟨id,ByteArray.mk #[],cols,zoh id rows⟩):=by
 unfold ztv zJ4
 have hcl:zbX cols=(true,cols):=by
  unfold zbX;rw [decide_eq_true (zlI (by omega) (by omega))]
 have hl:∀ n,rows.length<n->zzf n id rows (Int.ofNat rows.length) 0 0 (ByteArray.mk #[]) id (ByteArray.mk #[]) cols []=_:=λn hn=>z6w id rows hr hv 0 (ByteArray.mk #[]) id (ByteArray.mk #[]) cols n 0 (by omega) (by omega)
 rw [Wy.fin_bn,hcl,cond_true,Wy.fin_bn,hl _ (by omega)]; rfl
theorem z38 (id:Int) (rows:List (yG)) (hr:rows.length<=1000) (a:Int) (b:ByteArray) (c:Int) (d:ByteArray) (cols:yH):∀ (n i:Nat),rows.length<i+n->i<=rows.length->
  zDM n id rows i a b c d cols ((List.range i).map λi=>(⟨rows.getD i default,zjm ⟨id,((i+1:Nat):Int)⟩⟩:Row))=(true,(a,b,c,d,cols,zoh id rows))
 | 0,i,h1,h2=>by omega
 | n+1,i,h1,h2=>by
  show (zDz id rows i a b c d cols ((List.range i).map λi=>(⟨rows.getD i default,zjm ⟨id,((i+1:Nat):Int)⟩⟩:Row))).ev (zA zDP default n) (λr=>(true,r)) (false,default)=_
  unfold zDz;by_cases hi:i<rows.length
  ·have hb:∀ x:Row,decide ((((List.range i).map λi=>(⟨rows.getD i default,zjm ⟨id,((i+1:Nat):Int)⟩⟩:Row)).length+[x].length)*(48:Nat)<=zF)=true:=λx=>decide_eq_true (zlI (by simp; omega) (by omega))
   simp only [Wy.ev_i,Wy.ev_k,Wy.ev_h,Wy.ev_bn,Wy.ev_d,tT,hi,(z6a _).2,hb,zD (show i<4611686018427387904 by omega), <- zXJ]
   exact z38 id rows hr a b c d cols n (i+1) (by omega) (by omega)
  ·have:i=rows.length:=by omega
   subst this;simp only [Wy.ev_i,Wy.ev_k,Wy.ev_h,Wy.ev_bn,Wy.ev_d,tT,Nat.lt_irrefl];rfl
theorem zba1 (id:Int) (cols:yH) (rows:List (yG)) (hr:rows.length<=1000):zzx id cols rows=(true,⟨id,ByteArray.mk #[],cols,zoh id rows⟩):=by
 unfold zzx zRK;have hl:∀ n,rows.length<n->zDM n id rows 0 0 (ByteArray.mk #[]) id (ByteArray.mk #[]) cols []=_:=λn hn=>z38 id rows hr 0 (ByteArray.mk #[]) id (ByteArray.mk #[]) cols n 0 (by omega) (by omega)
 rw [Wy.fin_bn,hl _ (by omega)]; rfl
theorem zbdr (t:Table) (h:okRel ⟨t.Columns,t.Rows⟩):zv1 t=(true,zwU ⟨t.Columns,t.Rows⟩)/\zBL t=(true,zwU ⟨t.Columns,t.Rows⟩):=by
 unfold zv1 zLd zBL zUf;rw [Wy.fin_bn,Wy.fin_bn,z6X _ h,z5d _ h];exact ⟨rfl,rfl⟩
end Go.Proofs.YtoknknbmfmddbaaGreatDoor
/- The law of named rows. -/
set_option maxRecDepth 100000
namespace Go.Proofs.YtoknknbmfmddbaaGreatDoor
open Go Go.Ab
theorem zbcu (i:Nat) (h:i<=1000):wf3 ((i:Nat):Int):=by
 show (decide (IntKind.i64.min<=(i:Int))&&decide ((i:Int)<=IntKind.i64.max))=true;have e1:IntKind.i64.min= -9223372036854775808:=rfl;have e2:IntKind.i64.max=9223372036854775807:=rfl;rw [e1,e2,decide_eq_true (by omega),decide_eq_true (by omega)]; rfl
theorem z8V (id:Int) (cols:yH) (rows:List (yG)) (hr:rows.length<=1000) (hw:zbc4 rows):∀ (n i:Nat),rows.length<i+n->i<=rows.length->
  ∃ r,zzo n id cols rows i=(true,r)/\(r=.inl true\/(r=.inr (id,cols,rows)/\∀ v∈rows.drop i,v.length<=20))
 | 0,i,h1,h2=>by omega
 | n+1,i,h1,h2=>by
  show ∃ r,(zsv id cols rows i).ev (zA zsE (.inl default) n) (λr=>(true,r)) (false,.inl default)=(true,r)/\_
  unfold zsv;by_cases hi:i<rows.length
  ·obtain ⟨b,b1,b2⟩:=z6L (rows.getD i default) 20 (hw.1 _ (zn hi)).2;replace b1:zpc (rows.getD i default) (20:Int)=(true,b):=b1;simp only [Wy.ev_i,Wy.ev_k,Wy.ev_h,Wy.ev_bn,Wy.ev_d,tT,hi,b1];cases b with
   | false=>exact ⟨_,rfl,.inl rfl⟩
   | true=>
    rw [zD (by omega)]
    obtain ⟨r,h3,h4⟩:=z8V id cols rows hr hw n (i+1) (by omega) (by omega)
    refine ⟨r,h3,h4.imp_right λh4=>⟨h4.1,λv hv=> ?_⟩⟩
    rw [zbf hi] at hv;rcases qd.1 hv with rfl | hv
    ·exact (b2 rfl).1
    ·exact h4.2 v hv
  ·simp only [Wy.ev_i,Wy.ev_k,Wy.ev_h,Wy.ev_bn,Wy.ev_d,tT,hi];exact ⟨_,rfl,.inr ⟨rfl,λv hv=>by rw [zce hi] at hv; cases hv⟩⟩
theorem z8i (id:Int) (cols:yH) (rows:List (yG)) (h1:wf3 id) (h2:zbb5 cols) (h3:zbc4 rows):ziW id cols rows=(true,true):=by
 have l5:rows.length<=8->cols.length<=20->zzn 1 id cols rows=(true,true):=λhr hc=>by
  show (zsz id cols rows).ev (zA zsy default 0) (λr=>(true,r)) (false,default)=_
  unfold zsz;obtain ⟨r,a1,a2⟩:=z8V id cols rows (by omega) h3 (id.toNat +cols.length+rows.length+Int.toNat (0:Int)+(1000:Nat)) 0 (by omega) (by omega)
  rw [show ((0:Nat):Int)=(0:Int) from rfl] at a1
  rw [Wy.ev_bn,a1,cond_true];rcases a2 with rfl | ⟨rfl,a2⟩
  ·rfl
  ·rw [List.drop_zero] at a2;have hv:∀ v∈rows,v.length<=1000000:=λv hv=>by have:=a2 v hv; omega
   have hmem:∀ x∈zoh id rows,x.Values.length<=1000000/\okA x.Ann/\(zX x.Ann=true->zbW x.Ann):=λx hx=>by
    obtain ⟨i,i1,i2⟩:=List.mem_map.1 hx;have hi:=List.mem_range.1 i1;subst i2;exact ⟨hv _ (zn hi),zbbn ⟨h1,zbcu (i+1) (by omega)⟩,λ_=>zbfE _⟩
   have hlen:(zoh id rows).length=rows.length:=by unfold zoh; simp
   have ok:okRel ⟨cols,zoh id rows⟩:=⟨by show cols.length<=_; omega,by show (zoh id rows).length<20; omega,hmem⟩
   have nb:=zbcG id cols rows (by omega) (by omega) hv
   have rb:=zba1 id cols rows (by omega)
   have nok:=zbcC ok;have bb:=zbdr ⟨id,ByteArray.mk #[],cols,zoh id rows⟩ ok
   have e1:zCj (zwU ⟨cols,zoh id rows⟩).1 (zwU ⟨cols,zoh id rows⟩).2 (zwU ⟨cols,zoh id rows⟩).1 (zwU ⟨cols,zoh id rows⟩).2=(true,true):=by
    unfold zCj zVW;rw [Wy.fin_i,beq_self_eq_true,cond_true,Wy.fin_bn,zbbi _ _ nok.1 nok.2.1 nok.2.2,decide_eq_true rfl]; rfl
   simp only [Wy.ev_i,Wy.ev_k,Wy.ev_bn,isL,getL,getR,cond_true,cond_false,nb,rb,bb.1,bb.2,beq_self_eq_true,zNY cols cols (by omega),zXU (zoh id rows) (zoh id rows) (by omega) (λx hx=>⟨(hmem x hx).1,(hmem x hx).2.1⟩),decide_true,e1]
 have l3:zzu 1 id cols rows=(true,true):=by
  show (zsD id cols rows).ev (zA zsS default 0) (λr=>(true,r)) (false,default)=_
  unfold zsD;have e8:decide (Int.ofNat rows.length>(8:Int))=decide (rows.length>8):=zjD _ 8
  obtain ⟨q,q1,q2⟩:=zbgV 8 8 [⟨cols,[]⟩] (by omega) (by omega) (by simp) (λr hr=>by
   rw [qh.1 hr]; exact ⟨h2,⟨λy hy=>(by cases hy),Nat.zero_le _⟩⟩)
  replace q1:zBf (8:Int) (8:Int) [⟨cols,[]⟩]=(true,q):=q1;rw [Wy.ev_i,e8];by_cases h8:rows.length>8
  ·rw [decide_eq_true h8]; rfl
  ·rw [decide_eq_false h8,cond_false,Wy.ev_bn,q1,cond_true];cases q with
   | false=>rfl
   | true=>
    have:=(q2 rfl ⟨cols,[]⟩ (by simp)).cols
    rw [Wy.ev_i,Bool.not_true,cond_false,Wy.ev_bn,l5 (by omega) this]; rfl
 unfold ziW zA9;rw [Wy.fin_bn,l3]; rfl
end Go.Proofs.YtoknknbmfmddbaaGreatDoor
end
