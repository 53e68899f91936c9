/- Texts of this claim, joined (the program, its functions in plain words, and what they compute). -/
import Derived.Test.YtoknknbmfmddbaaGreatDoorGC11
set_option autoImplicit false
set_option linter.unusedVariables false
set_option linter.unusedSectionVars false
set_option linter.unusedSimpArgs false
set_option maxRecDepth 1000000
set_option maxHeartbeats 0
/- Relations: the normal form, by the reference. -/
set_option maxRecDepth 100000
noncomputable section
namespace Go.Proofs.YtoknknbmfmddbaaGreatDoor
open Go Go.Ab
end Go.Proofs.YtoknknbmfmddbaaGreatDoor
/- Relations: the guards of the laws. -/
set_option maxRecDepth 100000
namespace Go.Proofs.YtoknknbmfmddbaaGreatDoor
open Go Go.Ab
theorem zbeQ {n:Nat} (hn:n<=1000) {a:yB} (ha:z3C a):∃ q,zA0 (n:Int) [a]=(true,q)/\(q=true->okA a/\zel a<=n):=by
 obtain ⟨q,h1,h2⟩:=zbc8 n hn [a] (by simp) (λx hx=>by rw [qh] at hx; subst hx; exact ha)
 exact ⟨q,h1,λh=>⟨zbbu hn (h2 h a (by simp)) ha,(h2 h a (by simp)).2⟩⟩
structure smRel (rows w:Nat) (r:Relation):Prop where
 rows:r.Rows.length<=rows
 cols:r.Columns.length<=20
 row:∀ x∈r.Rows,(x.Values.length<=20/\∀ v∈x.Values,v.Text.size<=300)/\okA x.Ann/\zel x.Ann<=w
section
variable (rows w:Nat) (l:List Relation)
theorem zbcI (i:Nat) (hi:i<l.length) (hc:(l.getD i default).Columns.length<=20):∀ (n k:Nat),(l.getD i default).Columns.length<k+n->k<=(l.getD i default).Columns.length->∃ r,zUp n rows w l i k=(true,r)/\(r=.inl false\/r=.inr ((rows:Int),(w:Int),l,(i:Int)))
 | 0,k,h,h2=>by omega
 | n+1,k,h,h2=>by
  show ∃ r,(zIC rows w l i k).ev (zx zJa (.inl default) n) (λr=>(true,r)) (false,.inl default)=(true,r)/\_
  unfold zIC;by_cases hk:k<(l.getD i default).Columns.length
  ·simp only [Wy.ev_i,Wy.ev_k,Wy.ev_h,Wy.ev_d,tT,hi,hk];generalize decide (_>(100:Int))=q;cases q with
   | true=>exact ⟨_,rfl,.inl rfl⟩
   | false=>
    rw [cond_false,zy (by omega)]
    exact zbcI i hi hc n (k+1) (by omega) (by omega)
  ·simp only [Wy.ev_i,Wy.ev_k,Wy.ev_h,Wy.ev_d,tT,hi,hk];exact ⟨_,rfl,.inr rfl⟩
theorem zbaT (hw:w<=1000) (i:Nat) (hi:i<l.length) (hr:(l.getD i default).Rows.length<=1000) (hwf:∀ x∈(l.getD i default).Rows,zbaq x):∀ (n k:Nat),(l.getD i default).Rows.length<k+n->k<=(l.getD i default).Rows.length->
  ∃ r,zQ0 n rows w l i k=(true,r)/\(r=.inl false\/(r=.inr ((rows:Int),(w:Int),l,(i:Int))/\∀ x∈(l.getD i default).Rows.drop k,(x.Values.length<=20/\∀ v∈x.Values,v.Text.size<=300)/\okA x.Ann/\zel x.Ann<=w))
 | 0,k,h,h2=>by omega
 | n+1,k,h,h2=>by
  show ∃ r,(zGp rows w l i k).ev (zx zFE (.inl default) n) (λr=>(true,r)) (false,.inl default)=(true,r)/\_
  unfold zGp;by_cases hk:k<(l.getD i default).Rows.length
  ·have hx:=hwf _ (zm hk);obtain ⟨b,b1,b2⟩:=z9P ((l.getD i default).Rows.getD k default).Values 20 hx.1.2;obtain ⟨q,q1,q2⟩:=zbeQ hw (a:=((l.getD i default).Rows.getD k default).Ann) hx.2;replace b1:zwv ((l.getD i default).Rows.getD k default).Values (20:Int)=(true,b):=b1;simp only [Wy.ev_i,Wy.ev_k,Wy.ev_h,Wy.ev_bn,Wy.ev_d,tT,hi,hk,b1,q1];cases b with
   | false=>exact ⟨_,rfl,.inl rfl⟩
   | true=>
    cases q with
    | false=>exact ⟨_,rfl,.inl rfl⟩
    | true=>
     rw [zy (by omega)]
     obtain ⟨r,h3,h4⟩:=zbaT hw i hi hr hwf n (k+1) (by omega) (by omega)
     refine ⟨r,h3,h4.imp_right λh4=>⟨h4.1,λx hx=> ?_⟩⟩
     rw [zbh hk] at hx;rcases qd.1 hx with rfl | hx
     ·exact ⟨b2 rfl,q2 rfl⟩
     ·exact h4.2 x hx
  ·simp only [Wy.ev_i,Wy.ev_k,Wy.ev_h,Wy.ev_d,tT,hi,hk];exact ⟨_,rfl,.inr ⟨rfl,λx hx=>by rw [zcu hk] at hx; cases hx⟩⟩
theorem zbcC (hrs:rows<=100) (hw:w<=1000) (hl:l.length<=1000) (hwf:∀ r∈l,z78 r):∀ (n i:Nat),l.length<i+n->i<=l.length->
  ∃ r,zSW n rows w l i=(true,r)/\(r=.inl false\/(r=.inr ()/\∀ x∈l.drop i,smRel rows w x))
 | 0,i,h,h2=>by omega
 | n+1,i,h,h2=>by
  show ∃ r,(zJM rows w l i).ev (zx zIk (.inl default) n) (λr=>(true,r)) (false,.inl default)=(true,r)/\_
  unfold zJM;by_cases hi:i<l.length
  ·have hwr:=hwf _ (zm hi);have e2:decide ((((l.getD i default).Columns.length:Nat):Int)>(20:Int))=decide ((l.getD i default).Columns.length>20):=zjQ _ 20;simp only [Wy.ev_i,Wy.ev_k,Wy.ev_h,Wy.ev_d,tT,hi];rw [e2];by_cases h3:rows<(l.getD i default).Rows.length
   ·rw [decide_eq_true h3]; exact ⟨_,rfl,.inl rfl⟩
   by_cases h4:(l.getD i default).Columns.length>20
   ·rw [decide_eq_false h3,decide_eq_true h4]; exact ⟨_,rfl,.inl rfl⟩
   rw [decide_eq_false h3,decide_eq_false h4,cond_false,cond_false];obtain ⟨r7,a1,a2⟩:=zbcI rows w l i hi (by omega) ((rows:Int).toNat +(w:Int).toNat +l.length+i+Int.toNat (0:Int)+(1000:Nat)) 0 (by omega) (by omega)
   rw [show ((0:Nat):Int)=(0:Int) from rfl] at a1
   simp only [Int.toNat_natCast] at a1;simp only [Wy.ev_bn,a1,cond_true];rcases a2 with rfl | rfl
   ·exact ⟨_,rfl,.inl rfl⟩
   ·obtain ⟨r12,b1,b2⟩:=zbaT rows w l hw i hi (by omega) hwr.2.1 ((rows:Int).toNat +(w:Int).toNat +l.length+(i:Int).toNat +Int.toNat (0:Int)+(1000:Nat)) 0 (by omega) (by omega)
    rw [show ((0:Nat):Int)=(0:Int) from rfl] at b1
    simp only [Wy.ev_i,Wy.ev_k,Wy.ev_h,Wy.ev_bn,isL,getL,getR,cond_false,b1,cond_true];rcases b2 with rfl | ⟨rfl,b3⟩
    ·exact ⟨_,rfl,.inl rfl⟩
    ·simp only [isL,getL,getR,cond_false,zy (show i<4611686018427387904 by omega)]
     obtain ⟨r,c1,c2⟩:=zbcC hrs hw hl hwf n (i+1) (by omega) (by omega)
     refine ⟨r,c1,c2.imp_right λc2=>⟨c2.1,λx hx=> ?_⟩⟩
     rw [zbh hi] at hx;rcases qd.1 hx with rfl | hx
     ·rw [List.drop_zero] at b3;exact ⟨by omega,by omega,b3⟩
     ·exact c2.2 x hx
  ·simp only [Wy.ev_i,Wy.ev_k,Wy.ev_h,Wy.ev_d,tT,hi];exact ⟨_,rfl,.inr ⟨rfl,λx hx=>by rw [zcu hi] at hx; cases hx⟩⟩
theorem zbeH (hrs:rows<=100) (hw:w<=1000) (hl:l.length<=1000) (hwf:∀ r∈l,z78 r):∃ q,zAX rows w l=(true,q)/\(q=true->∀ r∈l,smRel rows w r):=by
 unfold zAX zWw;obtain ⟨r,h1,h2⟩:=zbcC rows w l hrs hw hl hwf ((rows:Int).toNat +(w:Int).toNat +l.length+Int.toNat (0:Int)+(1000:Nat)) 0 (by omega) (by omega)
 rw [show ((0:Nat):Int)=(0:Int) from rfl] at h1
 rw [Wy.fin_bn,h1];rcases h2 with rfl | ⟨rfl,h2⟩
 ·exact ⟨false,rfl,λh=>by cases h⟩
 ·exact ⟨true,rfl,λ_=>by rw [List.drop_zero] at h2; exact h2⟩
end
theorem smRel.ok {rows w:Nat} {r:Relation} (h:smRel rows w r) (hr:rows<20) (hw:w<=38):okRel r where
 cols:=by have:=h.cols; omega
 rows:=by have:=h.rows; omega
 row:=λx hx=>⟨by have:=(h.row x hx).1.1; omega,(h.row x hx).2.1,λhv=>zXJ 100 x.Ann hv (by have:=(h.row x hx).2.2; omega)⟩
end Go.Proofs.YtoknknbmfmddbaaGreatDoor
namespace Go.Proofs.YtoknknbmfmddbaaGreatDoor
open Go Go.Ab
end Go.Proofs.YtoknknbmfmddbaaGreatDoor
/- Relations compared; tables of named rows. -/
set_option maxRecDepth 100000
namespace Go.Proofs.YtoknknbmfmddbaaGreatDoor
open Go Go.Ab
theorem z6e {τ:Type} [Inhabited τ] [DecidableEq τ] {a b:List τ} (h:a.length=b.length):zer (λi=>decide (a.getD i default=b.getD i default)) a.length 0=decide (a=b):=by
 by_cases e:a=b
 ·subst e;rw [decide_eq_true rfl];exact zdx.2 λk _ _=>by simp
 ·rw [decide_eq_false e];cases hc:zer (λi=>decide (a.getD i default=b.getD i default)) a.length 0 with
  | false=>rfl
  | true=>
   refine absurd (List.ext_getElem h λi h1 h2=> ?_) e
   have:=zdx.1 hc i (by omega) (by omega)
   rw [qe,List.getD_eq_getElem?_getD,List.getD_eq_getElem?_getD,List.getElem?_eq_getElem h1,List.getElem?_eq_getElem h2] at this;exact this
theorem zbeD (x y:Column):(x.Name.toList==y.Name.toList&&x.Type_==y.Type_)=decide (x=y):=by
 rw [zAJ,zf8];cases x; cases y;simp only [Column.mk.injEq];exact (Bool.decide_and _ _).symm
theorem zbez (x y:Row):(decide (x.Values=y.Values)&&decide (x.Ann=y.Ann))=decide (x=y):=by
 cases x; cases y;simp only [Row.mk.injEq];exact (Bool.decide_and _ _).symm
end Go.Proofs.YtoknknbmfmddbaaGreatDoor
/- Relations: finding a row; copies. -/
set_option maxRecDepth 100000
namespace Go.Proofs.YtoknknbmfmddbaaGreatDoor
open Go Go.Ab
theorem zXw {τ:Type} [Inhabited τ] {l:List τ} {k:Nat} (h:k<l.length):l.set k (l.getD k default)=l:=by
 rw [List.getD_eq_getElem?_getD,List.getElem?_eq_getElem h];exact List.set_getElem_self h
theorem zTt:∀ N i,zer (λ_=>true) N i=true:=λN i=>zdx.2 λ_ _ _=>rfl
section
variable (g:yB->Bool×yB)
theorem zbd6 {B:yA} (hl:B.length<=1000000) (hg:∀ a∈B,g a=(true,a)) (i:Int) (t11:yB) (t12 t13 t23 t24:Int) (out:yB) (t x0 x1 x2 x3:Int) (x4:yD) (x5 x6 x7:Int) (x8:ByteArray) (t22:yC) (n:Nat) (hn:B.length<n):
  zvh g n i t11 t12 t13 t23 t24 (Int.ofNat B.length) 0 out t x0 x1 x2 x3 x4 x5 x6 x7 x8 t22 B=(true,(i,t11,t12,t13,t23,t24,out,t,x0,x1,x2,x3,x4,x5,x6,x7,x8,t22,B)):=by
 have key:=zcz (W:=zuX g) (z:=default) B.length (λk=>((),(),i,(),t11,t12,t13,(),t23,t24,(B.length:Int),(k:Int),())) (λ_=>(out,(t,(),()),(x0,x1,x2,(),x3,x4,x5,x6,x7,x8,()),t22,B,())) (λ_=>true) default (i,t11,t12,t13,t23,t24,out,t,x0,x1,x2,x3,x4,x5,x6,x7,x8,t22,B)
  (λk hk H K D=>by
   show (zks g i t11 t12 t13 t23 t24 B.length k out t x0 x1 x2 x3 x4 x5 x6 x7 x8 t22 B).ev H K D=_;unfold zks;simp only [Wy.ev_i,Wy.ev_k,Wy.ev_h,Wy.ev_bn,Wy.ev_d,tT,hk,hg _ (zm hk),zXw hk,zy (show k<4611686018427387904 by omega)])
  (λH K D=>by
   show (zks g i t11 t12 t13 t23 t24 B.length B.length out t x0 x1 x2 x3 x4 x5 x6 x7 x8 t22 B).ev H K D=_;unfold zks;simp only [Wy.ev_i,Wy.ev_k,tT,Nat.lt_irrefl]) n hn
 rw [zTt] at key;exact key
theorem zbdY {B:yD} (hl:B.length<=1000000) (hg:∀ w∈B,g w.Ann=(true,w.Ann)) (i:Int) (t11:yB) (t12 t13 t23 t24:Int) (out:yB) (t x0 x1 x2 x3 x4 x5 x6:Int) (x7:ByteArray) (t22:yC) (b4:yA) (n:Nat) (hn:B.length<n):
  zvH g n i t11 t12 t13 t23 t24 (Int.ofNat B.length) 0 out t x0 x1 x2 x3 x4 x5 x6 x7 t22 b4 B=(true,(i,t11,t12,t13,t23,t24,out,t,x0,x1,x2,x3,x4,x5,x6,x7,t22,b4,B)):=by
 have key:=zcz (W:=zvn g) (z:=default) B.length (λk=>((),(),i,(),t11,t12,t13,(),t23,t24,(B.length:Int),(k:Int),())) (λ_=>(out,(t,(),()),(x0,x1,x2,(),x3,(),x4,x5,x6,x7,()),t22,b4,B,())) (λ_=>true) default (i,t11,t12,t13,t23,t24,out,t,x0,x1,x2,x3,x4,x5,x6,x7,t22,b4,B)
  (λk hk H K D=>by
   show (zkH g i t11 t12 t13 t23 t24 B.length k out t x0 x1 x2 x3 x4 x5 x6 x7 t22 b4 B).ev H K D=_;unfold zkH;have e:B.set k (WO.mk (B.getD k default).Value (B.getD k default).Ann)=B:=zXw hk;simp only [Wy.ev_i,Wy.ev_k,Wy.ev_h,Wy.ev_bn,Wy.ev_d,tT,hk,hg _ (zm hk),e,zy (show k<4611686018427387904 by omega)])
  (λH K D=>by
   show (zkH g i t11 t12 t13 t23 t24 B.length B.length out t x0 x1 x2 x3 x4 x5 x6 x7 t22 b4 B).ev H K D=_;unfold zkH;simp only [Wy.ev_i,Wy.ev_k,tT,Nat.lt_irrefl]) n hn
 rw [zTt] at key;exact key
theorem zZL (A n:Nat):n<A+n+(1000:Nat):=by omega
theorem zba8 (x:Fc):x=(⟨⟨x.At.Kind,⟨x.At.Row.Table,x.At.Row.Seq⟩,x.At.Ag,x.At.Func,x.At.Items,x.At.Op,⟨x.At.Bd.Kind,x.At.Bd.Int,x.At.Bd.Text⟩⟩,x.Exp⟩:Fc):=by
 obtain ⟨⟨a,⟨b,c⟩,d,e,f,g,⟨h,i,j⟩⟩,k⟩:=x;rfl
theorem zbeA {F:yC} (hFl:F.length<=1000000) (k:Nat) (hk:k<F.length) (kd tb sq:Int) (args:yA) (fn:Int) (items:yD) (op vk vi:Int) (vt:ByteArray) (ex:Int)
  (he:F.getD k default=⟨⟨kd,⟨tb,sq⟩,args,fn,items,op,⟨vk,vi,vt⟩⟩,ex⟩) (ha:args.length<=1000000) (hi:items.length<=1000000) (hga:∀ a∈args,g a=(true,a)) (hgi:∀ w∈items,g w.Ann=(true,w.Ann))
  (t11:yB) (t12 t13:Int) (out:yB) (t:Int) (H:Unit×Unit×yB×Int×Int×Unit×Int×Int×Unit->yB×(Int×Unit×Unit)×yC×Unit->Bool×(yB×Int×Int×yB×Int×yC)) (K:yB×Int×Int×yB×Int×yC->Bool×(yB×Int×Int×yB×Int×yC)) (D:Bool×(yB×Int×Int×yB×Int×yC)):
  (zly g t11 t12 t13 F.length k out t F).ev H K D=H ((),(),t11,t12,t13,(),(F.length:Int),((k+1:Nat):Int),()) (out,(t,(),()),F,()):=by
 unfold zly
 have hA:zbN args=(true,args):=by
  unfold zbN;rw [decide_eq_true (zs1 (by omega) (by omega))]
 have hI:zbZ items=(true,items):=by
  unfold zbZ;rw [decide_eq_true (zs1 (by omega) (by omega))]
 have e:F.set k ⟨⟨kd,⟨tb,sq⟩,args,fn,items,op,⟨vk,vi,vt⟩⟩,ex⟩=F:=by rw [<- he]; exact zXw hk
 have c1:decide ((k:Int)<(F.length:Int))=true:=by simp [hk]
 have c2:(decide ((0:Int)<=(k:Int))&&decide ((k:Int)<Int.ofNat F.length))=true:=by simp [hk]
 have c3:decide (k<F.length)=true:=by simp [hk]
 have e12:∀ n,args.length<n->zvh g n k t11 t12 t13 F.length k (Int.ofNat args.length) 0 out t kd tb sq fn items op vk vi vt F args=_:=λn hn=>zbd6 g ha hga (k:Int) t11 t12 t13 (F.length:Int) (k:Int) out t kd tb sq fn items op vk vi vt F n hn
 have e18:∀ n,items.length<n->zvH g n k t11 t12 t13 F.length k (Int.ofNat items.length) 0 out t kd tb sq fn op vk vi vt F args items=_:=λn hn=>zbdY g hi hgi (k:Int) t11 t12 t13 (F.length:Int) (k:Int) out t kd tb sq fn op vk vi vt F args n hn
 rw [Wy.ev_i,c1,cond_true,Wy.ev_i,c2,cond_true,Wy.ev_bn];simp only [Int.toNat_natCast,he,hA,cond_true];rw [Wy.ev_bn,e12 _ (zZL _ _)];simp only [cond_true];rw [Wy.ev_bn,hI];simp only [cond_true];rw [Wy.ev_bn,e18 _ (zZL _ _)];simp only [cond_true];rw [Wy.ev_i,c2,cond_true,Wy.ev_i];simp only [Int.toNat_natCast,c3,cond_true,Wy.ev_h,he,e,zy (show k<4611686018427387904 by omega)]
theorem zbeK {d:Nat} {F:yC} (hF:zfI (zn d) F) (hg:∀ a,zn d a->g a=(true,a)) (t11:yB) (t12 t13:Int) (out:yB) (t:Int) (n:Nat) (hn:F.length<n):
  zC9 g n t11 t12 t13 (Int.ofNat F.length) 0 out t F=(true,(t11,t12,t13,out,t,F)):=by
 have hFl:=hF.1
 have key:=zcz (W:=zwE g) (z:=default) F.length (λk=>((),(),t11,t12,t13,(),(F.length:Int),(k:Int),())) (λ_=>(out,(t,(),()),F,())) (λ_=>true) default (t11,t12,t13,out,t,F)
  (λk hk H K D=>by
   have hx:=hF.2 _ (zm hk);exact zbeA g hFl k hk (F.getD k default).At.Kind (F.getD k default).At.Row.Table (F.getD k default).At.Row.Seq (F.getD k default).At.Ag (F.getD k default).At.Func (F.getD k default).At.Items (F.getD k default).At.Op (F.getD k default).At.Bd.Kind (F.getD k default).At.Bd.Int (F.getD k default).At.Bd.Text (F.getD k default).Exp (zba8 _) hx.1.1 hx.1.2.1 (λa ha=>hg a (hx.2.1 a ha)) (λw hw=>hg w.Ann (hx.2.2 w hw).2) t11 t12 t13 out t H K D)
  (λH K D=>by
   show (zly g t11 t12 t13 F.length F.length out t F).ev H K D=_;unfold zly;rw [Wy.ev_i,ztP,decide_eq_false (Nat.lt_irrefl _),cond_false,Wy.ev_k]) n hn
 rw [zTt] at key;exact key
theorem zbdK {d:Nat} {a:yB} (ha:zn (d+1) a) (hg:∀ a,zn d a->g a=(true,a)):∀ (n i:Nat),a.length<i+n->i<=a.length->
  zDa g n a a.length i (a.take i)=(true,a)
 | 0,i,h1,h2=>by omega
 | n+1,i,h1,h2=>by
  show (zwI g a a.length i (a.take i)).ev (zx (zwH g) default n) (λr=>(true,r)) (false,default)=_
  unfold zwI;have hal:=ha.1;by_cases hi:i<a.length
  ·have hf:=ha.2 _ (zm hi)
   have hC:zcf (a.getD i default).Fs=(true,(a.getD i default).Fs):=by
    unfold zcf;rw [decide_eq_true (zs1 (by have:=hf.1; omega) (by omega))]
   have e7:=λn hn=>zbeK g hf hg a (a.length:Int) (i:Int) (a.take i) (a.getD i default).Cf n hn
   have hr:∀ x:Term,decide (((a.take i).length+[x].length)*(32:Nat)<=zI)=true:=λx=>decide_eq_true (zs1 (by simp; omega) (by omega))
   simp only [Wy.ev_i,Wy.ev_k,Wy.ev_h,Wy.ev_bn,Wy.ev_d,ztP,zez,decide_true,Bool.and_self,Bool.true_and,Bool.and_true,cond_true,cond_false,Int.toNat_natCast,hi,show ((i:Int)<Int.ofNat a.length)=((i:Int)<(a.length:Int)) from rfl,hC]
   rw [e7 _ (zZL _ _)];simp only [cond_true,hr,zy (show i<4611686018427387904 by omega)]
   have et:a.take i++[TO.mk (a.getD i default).Cf (a.getD i default).Fs]=a.take (i+1):=(zgJ hi).symm;rw [et];exact zbdK ha hg n (i+1) (by omega) (by omega)
  ·have:i=a.length:=by omega
   subst this;rw [Wy.ev_i,ztP,decide_eq_false (Nat.lt_irrefl _),cond_false,Wy.ev_k,List.take_length]
end
theorem z6Q:∀ (n d:Nat) (a:yB),zn d a->d<=n->zlS n a=(true,a)
 | 0,d,a,h,hd=>by
  have:d=0:=by omega
  subst this;exact h.elim
 | n+1,0,a,h,hd=>h.elim
 | n+1,d+1,a,h,hd=>by
  rw [zSi];unfold zvs zFr;have key:=zbdK (zlS n) h (λb hb=>z6Q n d b hb (by omega)) (a.length+(Int.ofNat a.length).toNat +Int.toNat (0:Int)+(0:Nat)+(1000:Nat)) 0 (by omega) (by omega)
  rw [show ((0:Nat):Int)=(0:Int) from rfl,List.take_zero] at key
  rw [show (a.length:Int)=Int.ofNat a.length from rfl] at key
  rw [Wy.fin_bn,key]; rfl
theorem z9z {a:yB} (h:okA a):zDr a=(true,a):=z6Q 1000 12 a h.1.1 (by omega)
end Go.Proofs.YtoknknbmfmddbaaGreatDoor
/- Relations in normal form, by what is found in them. No program in sight. -/
set_option maxRecDepth 100000
namespace Go.Proofs.YtoknknbmfmddbaaGreatDoor
open Go Go.Ab
def fnd:yF->yG->yB
 | [],_=>[]
 | w::r,v=>if w.Values=v then w.Ann else fnd r v
abbrev zzO (M:yF):Prop:=M.Pairwise λx y=>cR x y<0
theorem zZe {x y:Row} (h:cR x y<0):x.Values≠y.Values:=λe=>by
 have:=(zBK x.Values y.Values).2 e;unfold cR at h; omega
theorem z6c {x y:Row}:cR x y=0↔x.Values=y.Values:=zBK _ _
theorem z3W {x y z:Row} (h1:cR x y<0) (h2:cR y z<0):cR x z<0:=by
 have a:=zLZ (x:=x.Values) (y:=y.Values) (z:=z.Values) (by unfold cR at h1; omega) (by unfold cR at h2; omega)
 by_cases e:cR x z=0
 ·have:=z6c.1 e;unfold cR at h1 h2;rw [this] at h1;have:=zoF y.Values z.Values;omega
 ·unfold cR at *; omega
theorem z4H:∀ {M:yF} {v:yG},(∀ w∈M,w.Values≠v)->fnd M v=[]
 | [],_,_=>rfl
 | y::M,v,h=>by rw [fnd,if_neg (h y (by simp)),z4H λw hw=>h w (by simp [hw])]
theorem zZ9:∀ {M:yF} {w:Row},zzO M->w∈M->fnd M w.Values=w.Ann
 | [],_,_,h=>by cases h
 | y::M,w,s,h=>by
  have s':=qi.1 s;rw [fnd];rcases qd.1 h with rfl | h
  ·rw [if_pos rfl]
  ·rw [if_neg (zZe (s'.1 w h)),zZ9 s'.2 h]
theorem zWW:∀ {M:yF} {v:yG},fnd M v≠[]->∃ w∈M,w.Values=v/\w.Ann=fnd M v
 | [],_,h=>absurd rfl h
 | y::M,v,h=>by
  rw [fnd] at h ⊢;split at h
  ·rename_i e; exact ⟨y,by simp,e,by rw [if_pos e]⟩
  ·rename_i e;obtain ⟨w,h1,h2,h3⟩:=zWW h;exact ⟨w,by simp [h1],h2,by rw [if_neg e]; exact h3⟩
theorem zD2 {y x z:Row} (h:zc5 y x=some z):z=⟨y.Values,zcp y.Ann x.Ann⟩/\zS (zcp y.Ann x.Ann)=true:=by
 unfold zc5 at h;split at h
 ·rename_i h0;rw [qa] at h;obtain ⟨⟨_,_,v3⟩,e⟩:=z8r h0;rw [e] at h;exact ⟨h.symm,v3⟩
 ·cases h
theorem z4q:∀ {M N:yF} {x:Row},zzO M->zhb x->zd3 cR zc5 M x=some N->∀ v,fnd N v=if x.Values=v then zcp (fnd M v) x.Ann else fnd M v
 | [],N,x,_,hx,h,v=>by
  rw [zd3,qa] at h;subst h;show (if x.Values=v then x.Ann else [])=if x.Values=v then zcp [] x.Ann else []
  rw [sum_nil (zDE hx.2.2).1]
 | y::M,N,x,s,hx,h,v=>by
  have s':=qi.1 s;rw [zd3] at h;by_cases h1:cR y x<0
  ·rw [if_pos h1] at h;cases e:zd3 cR zc5 M x with
   | none=>rw [e] at h; cases h
   | some K=>
    rw [e,Option.map_some,qa] at h;subst h;have ih:=z4q s'.2 hx e v;rw [fnd,fnd];by_cases e1:y.Values=v
    ·rw [if_pos e1,if_pos e1,if_neg];intro e2; exact zZe h1 (e1.trans e2.symm)
    ·rw [if_neg e1,if_neg e1,ih]
  ·rw [if_neg h1] at h;by_cases h2:cR y x=0
   ·rw [if_pos h2] at h;have exy:=z6c.1 h2;cases e:zc5 y x with
    | none=>rw [e] at h; cases h
    | some z=>
     rw [e,Option.map_some,qa] at h;obtain ⟨ez,_⟩:=zD2 e;subst h;rw [ez,fnd,fnd,exy];by_cases e1:x.Values=v
     ·rw [if_pos e1,if_pos e1,if_pos e1]
     ·rw [if_neg e1,if_neg e1,if_neg e1]
   ·rw [if_neg h2,qa] at h;subst h;have h3:cR x y<0:=by unfold cR at *; have:=zoF x.Values y.Values; omega
    rw [fnd];by_cases e1:x.Values=v
    ·rw [if_pos e1,if_pos e1,z4H,sum_nil (zDE hx.2.2).1];intro w hw;rw [<- e1];rcases qd.1 hw with rfl | hw
     ·exact (zZe h3).symm
     ·exact (zZe (z3W h3 (s'.1 w hw))).symm
    ·rw [if_neg e1,if_neg e1]
theorem zXD:∀ {M N:yF} {x:Row},zd3 cR zc5 M x=some N->∀ w∈N,w.Values=x.Values\/∃ u∈M,u.Values=w.Values
 | [],N,x,h,w,hw=>by
  rw [zd3,qa] at h;subst h;rw [qh.1 hw]; exact .inl rfl
 | y::M,N,x,h,w,hw=>by
  rw [zd3] at h;split at h
  ·cases e:zd3 cR zc5 M x with
   | none=>rw [e] at h; cases h
   | some K=>
    rw [e,Option.map_some,qa] at h;subst h;rcases qd.1 hw with rfl | hw
    ·exact .inr ⟨w,by simp,rfl⟩
    ·rcases zXD e w hw with k | ⟨u,k1,k2⟩
     ·exact .inl k
     ·exact .inr ⟨u,by simp [k1],k2⟩
  ·split at h
   ·cases e:zc5 y x with
    | none=>rw [e] at h; cases h
    | some z=>
     rw [e,Option.map_some,qa] at h;subst h;rcases qd.1 hw with rfl | hw
     ·exact .inr ⟨y,by simp,by rw [(zD2 e).1]⟩
     ·exact .inr ⟨w,by simp [hw],rfl⟩
   ·rw [qa] at h;subst h;rcases qd.1 hw with rfl | hw
    ·exact .inl rfl
    ·exact .inr ⟨w,hw,rfl⟩
theorem z3E:∀ {M N:yF} {x:Row},zzO M->zd3 cR zc5 M x=some N->zzO N
 | [],N,x,_,h=>by
  rw [zd3,qa] at h;subst h; simp
 | y::M,N,x,s,h=>by
  have s':=qi.1 s;rw [zd3] at h;by_cases h1:cR y x<0
  ·rw [if_pos h1] at h;cases e:zd3 cR zc5 M x with
   | none=>rw [e] at h; cases h
   | some K=>
    rw [e,Option.map_some,qa] at h;subst h;refine qi.2 ⟨λw hw=> ?_,z3E s'.2 e⟩
    rcases zXD e w hw with k | ⟨u,k1,k2⟩
    ·unfold cR at h1 ⊢; rw [k]; exact h1
    ·have:=s'.1 u k1;unfold cR at this ⊢; rw [<- k2]; exact this
  ·rw [if_neg h1] at h;by_cases h2:cR y x=0
   ·rw [if_pos h2] at h;cases e:zc5 y x with
    | none=>rw [e] at h; cases h
    | some z=>
     rw [e,Option.map_some,qa] at h;subst h;refine qi.2 ⟨λw hw=> ?_,s'.2⟩
     have:=s'.1 w hw;unfold cR at this ⊢; rw [(zD2 e).1]; exact this
   ·rw [if_neg h2,qa] at h;subst h;have h3:cR x y<0:=by unfold cR at *; have:=zoF x.Values y.Values; omega
    refine qi.2 ⟨λw hw=> ?_,s⟩
    rcases qd.1 hw with rfl | hw
    ·exact h3
    ·exact z3W h3 (s'.1 w hw)
theorem zZS:∀ {M N:yF} {x:Row},(∀ w∈M,zhb w)->zhb x->zd3 cR zc5 M x=some N->∀ w∈N,zhb w
 | [],N,x,_,hx,h,w,hw=>by
  rw [zd3,qa] at h;subst h;rw [qh.1 hw]; exact hx
 | y::M,N,x,k,hx,h,w,hw=>by
  have k':∀ w∈M,zhb w:=λw hw=>k w (by simp [hw])
  rw [zd3] at h;split at h
  ·cases e:zd3 cR zc5 M x with
   | none=>rw [e] at h; cases h
   | some K=>
    rw [e,Option.map_some,qa] at h;subst h;rcases qd.1 hw with rfl | hw
    ·exact k w (by simp)
    ·exact zZS k' hx e w hw
  ·split at h
   ·cases e:zc5 y x with
    | none=>rw [e] at h; cases h
    | some z=>
     rw [e,Option.map_some,qa] at h;subst h;rcases qd.1 hw with rfl | hw
     ·exact (zbai.key y x _ (k y (by simp)) hx e).1
     ·exact k' w hw
   ·rw [qa] at h;subst h;rcases qd.1 hw with rfl | hw
    ·exact hx
    ·exact k w hw
theorem z4X:∀ {l M N:yF},zzO M->(∀ w∈M,zhb w)->(∀ x∈l,zhb x)->l.foldl (λo x=>o.bind λM=>zd3 cR zc5 M x) (some M)=some N->
  zzO N/\(∀ w∈N,zhb w)/\(∀ v,fnd N v=(l.filter λx=>decide (x.Values=v)).foldl (λs x=>zcp s x.Ann) (fnd M v))/\∀ w∈N,(∃ x∈l,x.Values=w.Values)\/∃ u∈M,u.Values=w.Values
 | [],M,N,s,k,u,h=>by
  rw [List.foldl_nil,qa] at h;subst h;exact ⟨s,k,λv=>rfl,λw hw=>.inr ⟨w,hw,rfl⟩⟩
 | x::l,M,N,s,k,u,h=>by
  have hx:=u x (by simp)
  rw [List.foldl_cons,Option.bind_some] at h;cases e:zd3 cR zc5 M x with
  | none=>rw [e,zFA] at h; cases h
  | some K=>
   rw [e] at h;obtain ⟨h1,h2,h3,h4⟩:=z4X (z3E s e) (zZS k hx e) (λy hy=>u y (by simp [hy])) h
   refine ⟨h1,h2,λv=> ?_,λw hw=> ?_⟩
   ·rw [h3,z4q s hx e v,List.filter_cons];by_cases e1:x.Values=v
    ·rw [if_pos e1,decide_eq_true e1,if_pos rfl,List.foldl_cons]
    ·rw [if_neg e1,decide_eq_false e1,if_neg (by simp)]
   ·rcases h4 w hw with ⟨y,y1,y2⟩ | ⟨y,y1,y2⟩
    ·exact .inl ⟨y,by simp [y1],y2⟩
    ·rcases zXD e y y1 with q | ⟨z,z1,z2⟩
     ·exact .inl ⟨x,by simp,by rw [<- y2,q]⟩
     ·exact .inr ⟨z,z1,by rw [z2,y2]⟩
theorem zbbW:∀ {M N:yF},zzO M->zzO N->(∀ w∈M,w.Ann≠[])->(∀ w∈N,w.Ann≠[])->(∀ v,fnd M v=fnd N v)->M=N:=by
 have sub:∀ {M N:yF},zzO M->(∀ w∈M,w.Ann≠[])->(∀ v,fnd M v=fnd N v)->∀ w∈M,w∈N:=λ{M N} s k h w hw=>by
  have e:=zZ9 s hw;rw [h] at e;obtain ⟨u,u1,u2,u3⟩:=zWW (M:=N) (v:=w.Values) (by rw [e]; exact k w hw)
  have:u=w:=by
   cases u; cases w;simp only at u2 u3 e;rw [u2,u3,e]
  rw [<- this]; exact u1
 intro M N sM sN kM kN h;have nd:∀ {M:yF},zzO M->M.Nodup:=λs=>List.Pairwise.imp (λ{x y} (hxy:cR x y<0) (e:x=y)=>zZe hxy (by rw [e])) s
 have p:M.Perm N:=(List.perm_ext_iff_of_nodup (nd sM) (nd sN)).2 λw=>⟨sub sM kM h w,sub sN kN (λv=>(h v).symm) w⟩
 exact p.eq_of_pairwise (le:=λx y=>cR x y<0) (λa b _ _ h1 h2=>by
  unfold cR at h1 h2;have:=zoF a.Values b.Values;omega) sM sN
end Go.Proofs.YtoknknbmfmddbaaGreatDoor
namespace Go.Proofs.YtoknknbmfmddbaaGreatDoor
open Go Go.Ab
end Go.Proofs.YtoknknbmfmddbaaGreatDoor
/- Relations: what is valid, and the sum, by the program and the reference. -/
set_option maxRecDepth 100000
namespace Go.Proofs.YtoknknbmfmddbaaGreatDoor
open Go Go.Ab
def vR (r:Relation) (i:Nat):Bool:=zsy r.Columns (r.Rows.getD i default).Values&&(zc8 (r.Rows.getD i default)&&(zS (r.Rows.getD i default).Ann&&(decide (i=0)||decide (cR (r.Rows.getD (i - 1) default) (r.Rows.getD i default)<0))))
def zIl (r:Relation):Bool:=zD1 r.Columns&&zer (vR r) r.Rows.length 0
theorem z6C (x:Row):((x.Ann.length:Int)==(0:Int))= !zc8 x:=by
 unfold zc8; rw [Bool.not_not]; exact zr6 _ 0
theorem zbd7 (z:Int):decide (z≥0)= !decide (z<0):=by
 by_cases h:z<0
 ·rw [decide_eq_true h,decide_eq_false (by omega)]; rfl
 ·rw [decide_eq_false h,decide_eq_true (by omega)]; rfl
theorem z9j (r:Relation) (h:okRel r):zpY r=(true,zIl r):=by
 unfold zpY zIf zIl;have hl:=h.rows
 have e1024:decide (Int.ofNat r.Rows.length>(1024:Int))=false:=by
  rw [show decide (Int.ofNat r.Rows.length>(1024:Int))=decide (r.Rows.length>1024) from zjQ _ 1024]
  exact decide_eq_false (by omega)
 have key:=zcz (W:=zza) (z:=.inl default) r.Rows.length (λi=>((),r.Rows,(r.Rows.length:Int),(i:Int),())) (λ_=>(r,())) (vR r) (.inl false) (.inr ()) (λi hi H K D=>by
   show (zoq r.Rows r.Rows.length i r).ev H K D=_;unfold zoq;obtain ⟨k1,k2,k3⟩:=h.row _ (zm hi);unfold vR;cases i with
   | zero=>
    simp only [Wy.ev_i,Wy.ev_k,Wy.ev_h,Wy.ev_bn,Wy.ev_d,tT,hi,zZZ _ _ h.cols,k2.valid,z6C,zy (show 0<4611686018427387904 by omega)]
    cases zsy r.Columns (r.Rows.getD 0 default).Values <;>cases zc8 (r.Rows.getD 0 default) <;>cases zS (r.Rows.getD 0 default).Ann <;>rfl
   | succ j=>
    have hj:j<r.Rows.length:=by omega
    have e0:decide (((j+1:Nat):Int)>(0:Int))=true:=decide_eq_true (by omega)
    have ew:IntKind.i64.wrap (((j+1:Nat):Int) - (1:Int))=(j:Int):=by rw [ze5 (by omega) (by omega)]; omega
    have hc:=zev (r.Rows.getD j default) (r.Rows.getD (j+1) default) (h.row _ (zm hj)).1;simp only [Wy.ev_i,Wy.ev_k,Wy.ev_h,Wy.ev_bn,Wy.ev_d,tT,hi,hj,zZZ _ _ h.cols,k2.valid,z6C,e0,ew,hc,zbd7,zy (show j+1<4611686018427387904 by omega),Nat.add_sub_cancel,Nat.succ_ne_zero,Bool.false_or]
    show _=bif zsy r.Columns (r.Rows.getD (j+1) default).Values&&(zc8 (r.Rows.getD (j+1) default)&&(zS (r.Rows.getD (j+1) default).Ann&&decide (ztA (r.Rows.getD j default).Values (r.Rows.getD (j+1) default).Values<0))) then _ else _
    cases zsy r.Columns (r.Rows.getD (j+1) default).Values <;>cases zc8 (r.Rows.getD (j+1) default) <;>cases zS (r.Rows.getD (j+1) default).Ann <;>cases decide (ztA (r.Rows.getD j default).Values (r.Rows.getD (j+1) default).Values<0) <;>rfl) (λH K D=>by
   show (zoq r.Rows r.Rows.length r.Rows.length r).ev H K D=_;unfold zoq;simp only [Wy.ev_i,Wy.ev_k,Wy.ev_h,Wy.ev_bn,Wy.ev_d,tT,Nat.lt_irrefl]) (r.Rows.length+(Int.ofNat r.Rows.length).toNat +Int.toNat (0:Int)+r.Columns.length+r.Rows.length+(1000:Nat)) (by omega)
 replace key:zGT (r.Rows.length+(Int.ofNat r.Rows.length).toNat +Int.toNat (0:Int)+r.Columns.length+r.Rows.length+(1000:Nat)) r.Rows (Int.ofNat r.Rows.length) 0 r=_:=key;rw [Wy.fin_bn,zK8 _ h.cols,cond_true,Wy.fin_i];cases zD1 r.Columns with
 | false=>rfl
 | true=>
  rw [Bool.not_true,cond_false,Wy.fin_i,e1024,cond_false,Wy.fin_bn,key];cases zer (vR r) r.Rows.length 0 <;>rfl
end Go.Proofs.YtoknknbmfmddbaaGreatDoor
/- Sums of valid relations, by what is found in them. -/
set_option maxRecDepth 100000
namespace Go.Proofs.YtoknknbmfmddbaaGreatDoor
open Go Go.Ab
structure NF (M:yF):Prop where
 asc:zzO M
 ok:∀ w∈M,zhb w
 ne:∀ w∈M,w.Ann≠[]
theorem zZ4 {x:Row}:zc8 x=true↔x.Ann≠[]:=by
 unfold zc8; cases x.Ann <;>simp
theorem z0Y:∀ {M:yF} (v:yG),(∀ w∈M,zhb w)->zS (fnd M v)=true
 | [],v,_=>z8g
 | y::M,v,h=>by
  rw [fnd];split
  ·exact (h y (by simp)).2.2
  ·exact z0Y v λw hw=>h w (by simp [hw])
theorem zbdO {p q:yB} (hp:Srs p) (h:zcp p q=[]):p=[]/\q=[]:=by
 constructor
 ·cases p with
  | nil=>rfl
  | cons t p=>
   obtain ⟨y,y1,_⟩:=(zZA q (t::p) hp t.Fs).2 (.inl ⟨t,by simp,rfl⟩)
   rw [h] at y1; cases y1
 ·cases q with
  | nil=>rfl
  | cons t q=>
   obtain ⟨y,y1,_⟩:=(zZA (t::q) p hp t.Fs).2 (.inr ⟨t,by simp,rfl⟩)
   rw [h] at y1; cases y1
theorem z1u:∀ {M:yF} {x:Row},(∀ w∈M,cR w x<0)->zd3 cR zc5 M x=some (M++[x])
 | [],x,_=>rfl
 | y::M,x,h=>by
  rw [zd3,if_pos (h y (by simp)),z1u λw hw=>h w (by simp [hw])]; rfl
theorem z1f:∀ {l M:yF},zzO (M++l)->l.foldl (λo x=>o.bind λM=>zd3 cR zc5 M x) (some M)=some (M++l)
 | [],M,_=>by simp
 | x::l,M,h=>by
  have hx:=List.pairwise_append.1 h;rw [List.foldl_cons,Option.bind_some,z1u λw hw=>hx.2.2 w hw x (by simp)]
  have e:M++x::l=(M++[x])++l:=by simp
  rw [e] at h ⊢;exact z1f h
theorem z4n {cols:yH}:∀ {l:yF},(∀ x∈l,zsy cols x.Values=true/\zS x.Ann=true)->zzX cols l=0
 | [],_=>rfl
 | y::l,h=>by
  rw [zzX,(h y (by simp)).1,(h y (by simp)).2]
  exact z4n λx hx=>h x (by simp [hx])
end Go.Proofs.YtoknknbmfmddbaaGreatDoor
namespace Go.Proofs.YtoknknbmfmddbaaGreatDoor
open Go Go.Ab
end Go.Proofs.YtoknknbmfmddbaaGreatDoor
/- Relations: equality by the program; the empty relation. -/
set_option maxRecDepth 100000
namespace Go.Proofs.YtoknknbmfmddbaaGreatDoor
open Go Go.Ab
theorem z8W (a b:yH) (ha:a.length<=1000000):zd2 a b=(true,decide (a=b)):=by
 unfold zd2 zl7;rw [Wy.fin_i,zry,zQd];by_cases he:a.length=b.length
 ·have key:=zcz (W:=zg4) (z:=.inl default) a.length (λi=>(a,b,(a.length:Int),(i:Int),())) (λ_=>()) (λi=>decide (a.getD i default=b.getD i default)) (.inl false) (.inr ()) (λi hi H K D=>by
    show (zdn a b a.length i).ev H K D=_;unfold zdn;have hi':i<b.length:=by omega
    simp only [Wy.ev_i,Wy.ev_k,Wy.ev_h,Wy.ev_bn,Wy.ev_d,tT,hi,hi',zbeD,zy (show i<4611686018427387904 by omega)]
    cases decide (a.getD i default=b.getD i default) <;>rfl) (λH K D=>by
    show (zdn a b a.length a.length).ev H K D=_;unfold zdn;simp only [Wy.ev_i,Wy.ev_k,Wy.ev_h,Wy.ev_bn,Wy.ev_d,tT,Nat.lt_irrefl]) (a.length+b.length+(Int.ofNat a.length).toNat +Int.toNat (0:Int)+(1000:Nat)) (by omega)
  replace key:zlP (a.length+b.length+(Int.ofNat a.length).toNat +Int.toNat (0:Int)+(1000:Nat)) a b (Int.ofNat a.length) 0=_:=key;rw [decide_eq_true he,Bool.not_true,cond_false,Wy.fin_bn,key,z6e he];cases decide (a=b) <;>rfl
 ·rw [decide_eq_false he,decide_eq_false (show ¬ a=b from λe=>he (by rw [e]))]; rfl
theorem z7u (x y:Row) (h1:x.Values.length<=1000000) (h2:okA x.Ann):zp8 x y=(true,decide (x=y)):=by
 unfold zp8 zFg;have ea:zf7 x.Ann y.Ann=(true,decide (x.Ann=y.Ann)):=zwG h2.1.1 (by omega) _
 have ec:(ztA x.Values y.Values==(0:Int))=decide (x.Values=y.Values):=by rw [zf8,decide_eq_decide]; exact zBK _ _
 rw [Wy.fin_bn,zev x y h1,cond_true,Wy.fin_i,ec,Wy.fin_bn,ea, <- zbez];cases decide (x.Values=y.Values) <;>rfl
theorem z8Q (a b:yF) (ha:a.length<=1000000) (h:∀ x∈a,x.Values.length<=1000000/\okA x.Ann):zb6 a b=(true,decide (a=b)):=by
 unfold zb6 zgx;rw [Wy.fin_i,zry,zQd];by_cases he:a.length=b.length
 ·have key:=zcz (W:=zdR) (z:=.inl default) a.length (λi=>(b,(),a,(a.length:Int),(i:Int),())) (λ_=>()) (λi=>decide (a.getD i default=b.getD i default)) (.inl false) (.inr ()) (λi hi H K D=>by
    show (zbY b a a.length i).ev H K D=_;unfold zbY;have hi':i<b.length:=by omega
    obtain ⟨k1,k2⟩:=h _ (zm hi);simp only [Wy.ev_i,Wy.ev_k,Wy.ev_h,Wy.ev_bn,Wy.ev_d,tT,hi,hi',z7u _ _ k1 k2,zy (show i<4611686018427387904 by omega)]
    cases decide (a.getD i default=b.getD i default) <;>rfl) (λH K D=>by
    show (zbY b a a.length a.length).ev H K D=_;unfold zbY;simp only [Wy.ev_i,Wy.ev_k,Wy.ev_h,Wy.ev_bn,Wy.ev_d,tT,Nat.lt_irrefl]) (b.length+a.length+(Int.ofNat a.length).toNat +Int.toNat (0:Int)+(1000:Nat)) (by omega)
  replace key:zgh (b.length+a.length+(Int.ofNat a.length).toNat +Int.toNat (0:Int)+(1000:Nat)) b a (Int.ofNat a.length) 0=_:=key;rw [decide_eq_true he,Bool.not_true,cond_false,Wy.fin_bn,key,z6e he];cases decide (a=b) <;>rfl
 ·rw [decide_eq_false he,decide_eq_false (show ¬ a=b from λe=>he (by rw [e]))]; rfl
theorem z5N (a b:Relation) (hc:a.Columns.length<=1000000) (ha:a.Rows.length<=1000000) (h:∀ x∈a.Rows,x.Values.length<=1000000/\okA x.Ann):zlZ a b=(true,decide (a=b)):=by
 unfold zlZ zJ0;rw [Wy.fin_bn,z8W _ _ hc,cond_true,Wy.fin_i,Wy.fin_bn,z8Q _ _ ha h]
 have e:decide (a=b)=(decide (a.Columns=b.Columns)&&decide (a.Rows=b.Rows)):=by
  cases a; cases b;simp only [Relation.mk.injEq];exact Bool.decide_and _ _
 rw [e];cases decide (a.Columns=b.Columns) <;>rfl
end Go.Proofs.YtoknknbmfmddbaaGreatDoor
end
