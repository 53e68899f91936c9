/- Texts of this claim, joined (the program, its functions in plain words, and what they compute). -/
import Derived.Test.YtoknknbmfmddbaaGreatDoorGC12
set_option autoImplicit false
set_option linter.unusedVariables false
set_option linter.unusedSectionVars false
set_option linter.unusedSimpArgs false
set_option maxRecDepth 1000000
set_option maxHeartbeats 0
/- Relations: what is valid, and the sum, by the program and the reference. -/
set_option maxRecDepth 100000
noncomputable section
namespace Go.Proofs.YtoknknbmfmddbaaGreatDoor
open Go Go.Ab
def vR (r:Relation) (i:Nat):Bool:=zoT r.Columns (r.Rows.getD i default).Values&&(zFx (r.Rows.getD i default)&&(zcx (r.Rows.getD i default).Ann&&(decide (i=0)||decide (cR (r.Rows.getD (i - 1) default) (r.Rows.getD i default)<0))))
def zkN (r:Relation):Bool:=zHg r.Columns&&zdR (vR r) r.Rows.length 0
theorem zUG (x:Row):((x.Ann.length:Int)==(0:Int))= !zFx x:=by
 unfold zFx; rw [Bool.not_not]; exact zvS _ 0
theorem zbaw (z:Int):decide (z≥0)= !decide (z<0):=by
 by_cases h:z<0
 ·rw [decide_eq_true h,decide_eq_false (by omega)]; rfl
 ·rw [decide_eq_false h,decide_eq_true (by omega)]; rfl
theorem z2E (r:Relation) (h:okRel r):zom r=(true,zkN r):=by
 unfold zom zI8 zkN;have hl:=h.rows
 have e1024:decide (Int.ofNat r.Rows.length>(1024:Int))=false:=by
  rw [show decide (Int.ofNat r.Rows.length>(1024:Int))=decide (r.Rows.length>1024) from ziv _ 1024]
  exact decide_eq_false (by omega)
 have key:=zcE (W:=zxT) (z:=.inl default) r.Rows.length (λi=>((),r.Rows,(r.Rows.length:Int),(i:Int),())) (λ_=>(r,())) (vR r) (.inl false) (.inr ()) (λi hi H K D=>by
   show (zmQ r.Rows r.Rows.length i r).ev H K D=_;unfold zmQ;obtain ⟨k1,k2,k3⟩:=h.row _ (zL hi);unfold vR;cases i with
   | zero=>
    simp only [Wy.ev_i,Wy.ev_k,Wy.ev_h,Wy.ev_bn,Wy.ev_d,tT,hi,z6H _ _ h.cols,k2.valid,zUG,zX (show 0<4611686018427387904 by omega)]
    cases zoT r.Columns (r.Rows.getD 0 default).Values <;>cases zFx (r.Rows.getD 0 default) <;>cases zcx (r.Rows.getD 0 default).Ann <;>rfl
   | succ j=>
    have hj:j<r.Rows.length:=by omega
    have e0:decide (((j+1:Nat):Int)>(0:Int))=true:=decide_eq_true (by omega)
    have ew:IntKind.i64.wrap (((j+1:Nat):Int) - (1:Int))=(j:Int):=by rw [zou (by omega) (by omega)]; omega
    have hc:=zCt (r.Rows.getD j default) (r.Rows.getD (j+1) default) (h.row _ (zL hj)).1;simp only [Wy.ev_i,Wy.ev_k,Wy.ev_h,Wy.ev_bn,Wy.ev_d,tT,hi,hj,z6H _ _ h.cols,k2.valid,zUG,e0,ew,hc,zbaw,zX (show j+1<4611686018427387904 by omega),Nat.add_sub_cancel,Nat.succ_ne_zero,Bool.false_or]
    show _=bif zoT r.Columns (r.Rows.getD (j+1) default).Values&&(zFx (r.Rows.getD (j+1) default)&&(zcx (r.Rows.getD (j+1) default).Ann&&decide (zqV (r.Rows.getD j default).Values (r.Rows.getD (j+1) default).Values<0))) then _ else _
    cases zoT r.Columns (r.Rows.getD (j+1) default).Values <;>cases zFx (r.Rows.getD (j+1) default) <;>cases zcx (r.Rows.getD (j+1) default).Ann <;>cases decide (zqV (r.Rows.getD j default).Values (r.Rows.getD (j+1) default).Values<0) <;>rfl) (λH K D=>by
   show (zmQ r.Rows r.Rows.length r.Rows.length r).ev H K D=_;unfold zmQ;simp only [Wy.ev_i,Wy.ev_k,Wy.ev_h,Wy.ev_bn,Wy.ev_d,tT,Nat.lt_irrefl]) (r.Rows.length+(Int.ofNat r.Rows.length).toNat +Int.toNat (0:Int)+r.Columns.length+r.Rows.length+(1000:Nat)) (by omega)
 replace key:zF4 (r.Rows.length+(Int.ofNat r.Rows.length).toNat +Int.toNat (0:Int)+r.Columns.length+r.Rows.length+(1000:Nat)) r.Rows (Int.ofNat r.Rows.length) 0 r=_:=key;rw [Wy.fin_bn,zYW _ h.cols,cond_true,Wy.fin_i];cases zHg r.Columns with
 | false=>rfl
 | true=>
  rw [Bool.not_true,cond_false,Wy.fin_i,e1024,cond_false,Wy.fin_bn,key];cases zdR (vR r) r.Rows.length 0 <;>rfl
theorem zYL (r:Relation) (h:okRel r):zuS r=(true,zkN r):=by
 unfold zuS zQz zkN;have hl:=h.rows
 have e1024:decide (Int.ofNat r.Rows.length>(1024:Int))=false:=by
  rw [show decide (Int.ofNat r.Rows.length>(1024:Int))=decide (r.Rows.length>1024) from ziv _ 1024]
  exact decide_eq_false (by omega)
 have key:=zcE (W:=zDg) (z:=.inl default) r.Rows.length (λi=>((),(i:Int),())) (λ_=>(r,())) (vR r) (.inl false) (.inr ()) (λi hi H K D=>by
   show (zsu i r).ev H K D=_;unfold zsu;obtain ⟨k1,k2,k3⟩:=h.row _ (zL hi);unfold vR;cases i with
   | zero=>
    simp only [Wy.ev_i,Wy.ev_k,Wy.ev_h,Wy.ev_bn,Wy.ev_d,tT,hi,zQj _ _ h.cols,k2.rvalid,zUG,zX (show 0<4611686018427387904 by omega)]
    cases zoT r.Columns (r.Rows.getD 0 default).Values <;>cases zFx (r.Rows.getD 0 default) <;>cases zcx (r.Rows.getD 0 default).Ann <;>rfl
   | succ j=>
    have hj:j<r.Rows.length:=by omega
    have e0:decide (((j+1:Nat):Int)>(0:Int))=true:=decide_eq_true (by omega)
    have ew:IntKind.i64.wrap (((j+1:Nat):Int) - (1:Int))=(j:Int):=by rw [zou (by omega) (by omega)]; omega
    have hc:=zAW (r.Rows.getD j default).Values (r.Rows.getD (j+1) default).Values (h.row _ (zL hj)).1;simp only [Wy.ev_i,Wy.ev_k,Wy.ev_h,Wy.ev_bn,Wy.ev_d,tT,hi,hj,zQj _ _ h.cols,k2.rvalid,zUG,e0,ew,hc,zbaw,zX (show j+1<4611686018427387904 by omega),Nat.add_sub_cancel,Nat.succ_ne_zero,Bool.false_or]
    show _=bif zoT r.Columns (r.Rows.getD (j+1) default).Values&&(zFx (r.Rows.getD (j+1) default)&&(zcx (r.Rows.getD (j+1) default).Ann&&decide (zqV (r.Rows.getD j default).Values (r.Rows.getD (j+1) default).Values<0))) then _ else _
    cases zoT r.Columns (r.Rows.getD (j+1) default).Values <;>cases zFx (r.Rows.getD (j+1) default) <;>cases zcx (r.Rows.getD (j+1) default).Ann <;>cases decide (zqV (r.Rows.getD j default).Values (r.Rows.getD (j+1) default).Values<0) <;>rfl) (λH K D=>by
   show (zsu r.Rows.length r).ev H K D=_;unfold zsu;simp only [Wy.ev_i,Wy.ev_k,Wy.ev_h,Wy.ev_bn,Wy.ev_d,tT,Nat.lt_irrefl]) (Int.toNat (0:Int)+r.Columns.length+r.Rows.length+(1:Nat)) (by omega)
 replace key:zMZ (Int.toNat (0:Int)+r.Columns.length+r.Rows.length+(1:Nat)) 0 r=_:=key;rw [Wy.fin_bn,zXB _ h.cols,cond_true,Wy.fin_i];cases zHg r.Columns with
 | false=>rfl
 | true=>
  rw [Bool.not_true,cond_false,Wy.fin_i,e1024,cond_false,Wy.fin_bn,key];cases zdR (vR r) r.Rows.length 0 <;>rfl
end Go.Proofs.YtoknknbmfmddbaaGreatDoor
/- Sums of valid relations, by what is found in them. -/
set_option maxRecDepth 100000
namespace Go.Proofs.YtoknknbmfmddbaaGreatDoor
open Go Go.Ab
structure NF (M:yF):Prop where
 asc:zbaH M
 ok:∀ w∈M,zbdL w
 ne:∀ w∈M,w.Ann≠[]
theorem zbbG {M:yF} (h:∀ i,i+1<M.length->cR (M.getD i default) (M.getD (i+1) default)<0):zbaH M:=by
 have all:∀ d i,i+d+1<M.length->cR (M.getD i default) (M.getD (i+d+1) default)<0:=by
  intro d;induction d with
  | zero=>intro i hi; exact h i hi
  | succ d ih=>intro i hi; exact z9R (ih i (by omega)) (h (i+d+1) (by omega))
 refine List.pairwise_iff_getElem.2 λi j hi hj hij=> ?_
 have:=all (j - i - 1) i (by omega)
 rw [show i+(j - i - 1)+1=j by omega] at this
 rw [List.getD_eq_getElem?_getD,List.getD_eq_getElem?_getD,List.getElem?_eq_getElem hi,List.getElem?_eq_getElem hj] at this;exact this
theorem zba2 {x:Row}:zFx x=true↔x.Ann≠[]:=by
 unfold zFx; cases x.Ann <;>simp
theorem zbat {r:Relation} (h:okRel r) (hv:zkN r=true):zHg r.Columns=true/\NF r.Rows/\∀ x∈r.Rows,zoT r.Columns x.Values=true/\zcx x.Ann=true:=by
 unfold zkN at hv;rw [qc] at hv
 have key:∀ i,i<r.Rows.length->zoT r.Columns (r.Rows.getD i default).Values=true/\zFx (r.Rows.getD i default)=true/\zcx (r.Rows.getD i default).Ann=true/\(i=0\/cR (r.Rows.getD (i - 1) default) (r.Rows.getD i default)<0):=λi hi=>by
  have:=zdt.1 hv.2 i (by omega) (by omega)
  unfold vR at this
  simpa only [Bool.and_eq_true,Bool.or_eq_true,decide_eq_true_eq] using this
 have mem:∀ x∈r.Rows,∃ i,i<r.Rows.length/\r.Rows.getD i default=x:=λx hx=>zDy hx
 refine ⟨hv.1,⟨zbbG λi hi=> ?_,λx hx=> ?_,λx hx=> ?_⟩,λx hx=> ?_⟩
 ·have:=(key (i+1) hi).2.2.2;rw [Nat.add_sub_cancel] at this;exact this.resolve_left (by omega)
 ·obtain ⟨i,hi,rfl⟩:=mem x hx;exact ⟨(h.row _ (zL hi)).1,(h.row _ (zL hi)).2.1,(key i hi).2.2.1⟩
 ·obtain ⟨i,hi,rfl⟩:=mem x hx;exact zba2.1 (key i hi).2.1
 ·obtain ⟨i,hi,rfl⟩:=mem x hx;exact ⟨(key i hi).1,(key i hi).2.2.1⟩
end Go.Proofs.YtoknknbmfmddbaaGreatDoor
/- Relations: their texts, by the program and the reference. -/
set_option maxRecDepth 100000
namespace Go.Proofs.YtoknknbmfmddbaaGreatDoor
open Go Go.Ab
def tyT (k:Int):List UInt8:=if k=0 then [73,78,84,69,71,69,82] else if k=1 then [84,69,88,84] else [66,79,79,76,69,65,78]
theorem z0H (k:Int):(tyT k).length<=7:=by unfold tyT; (repeat' split) <;>simp
def zms (c:Column):List UInt8:=c.Name.data.toList++([32]++tyT c.Type_)
theorem z6A (s:ByteArray):s=bs s.data.toList:=zwS (by rw [zl7])
theorem zWE {k:Int} (h0:0<=k) (h2:k<=2):zkU k=(true,bs (tyT k))/\zr0 k=(true,bs (tyT k)):=by
 have hc:k=0\/k=1\/k=2:=by omega
 rcases hc with rfl | rfl | rfl <;>exact ⟨by kernel_rfl,by kernel_rfl⟩
theorem zbar {c:Column} (h:c.Name.size<=100):(zms c).length<=110:=by
 have:=z0H c.Type_;have e:c.Name.data.toList.length=c.Name.size:=by rw [Array.length_toList]; rfl
 unfold zms;simp only [qg,qf,List.length_nil]; omega
def zGE (l:yH):List UInt8:=zbr (l.map zms) [44,32]
theorem z2y {l:yH} (h:∀ c∈l,c.Name.size<=100):(zGE l).length<=l.length*112:=by
 have:=zs5 (B:=112) (l.map zms) [44,32] λx hx=>by
  obtain ⟨c,hc,rfl⟩:=List.mem_map.1 hx;have:=zbar (h c hc);simp only [qf,List.length_nil]; omega
 rwa [List.length_map] at this
def zqn (x:Row):List UInt8:=zAC x.Values++([32,124,32]++txN x.Ann)
def zBg (r:Relation):List ByteArray:=bif zkN r then bs (zGE r.Columns)::r.Rows.map λx=>bs (zqn x) else []
structure okTx (r:Relation):Prop where
 cols:r.Columns.length<=1000
 ty:∀ c∈r.Columns,(0<=c.Type_/\c.Type_<=2)/\c.Name.size<=100
 rows:r.Rows.length<=1000
 row:∀ x∈r.Rows,(x.Values.length<=1000/\∀ v∈x.Values,zh6 v=true/\rng v.Int)/\okA x.Ann/\zcx x.Ann=true
theorem zXO {a:yB} (h:zcx a=true) (hw:zfd a):zBz a=(true,bs (txN a))/\zOD a=(true,bs (txN a))/\(txN a).length<=5000000:=by
 refine ⟨(z4K 1000).1 100 a h hw (by omega),(z2o 1000).1 100 a h hw (by omega), ?_⟩
 have h1:=(zzV 100).1 a h;have h2:=(zen h).2.1;omega
theorem zYQ {a:yB} (oa:okA a) (h:zcx a=true):znd a=(true,bs (txN a))/\zwp a=(true,bs (txN a)):=by
 obtain ⟨t1,t2,_⟩:=zXO h oa.2.1;constructor
 ·unfold znd zCd;rw [Wy.fin_bn,oa.valid,h,cond_true,Wy.fin_i,Bool.not_true,cond_false,Wy.fin_bn,t1]; rfl
 ·unfold zwp zNi;rw [Wy.fin_bn,oa.rvalid,h,cond_true,Wy.fin_i,Bool.not_true,cond_false,Wy.fin_bn,t2]; rfl
section
variable {r:Relation} (h:okTx r)
include h
theorem zbdX (n:Nat) (hn:r.Columns.length<n):zDT n r.Columns r.Columns.length (0:Int) r []=(true,(r,r.Columns.map λc=>bs (zms c))):=by
 have hreach:zbh=70368744177664:=rfl;have hcl:=h.cols
 have key:=zcE (W:=zwr) (z:=default) r.Columns.length (λi=>((),(),r.Columns,(r.Columns.length:Int),(i:Int),())) (λi=>(r,(r.Columns.take i).map λc=>bs (zms c),())) (λ_=>true) default (r,r.Columns.map λc=>bs (zms c))
  (λi hi H K D=>by
   show (zlp r.Columns r.Columns.length i r ((r.Columns.take i).map λc=>bs (zms c))).ev H K D=_
   unfold zlp;obtain ⟨⟨t0,t2⟩,hnm⟩:=h.ty _ (zL hi);have ht:=(zWE t0 t2).1;have l1:=z0H (r.Columns.getD i default).Type_;have hb:decide ((((r.Columns.take i).map λc=>bs (zms c)).length+1)*16<=zbh)=true:=by simp only [qe,List.length_map,List.length_take]; omega
   rw [zd7 hi,List.map_append];generalize ((r.Columns.take i).map λc=>bs (zms c))=out at *
   have hb':decide ((out.length+(0+1))*16<=zbh)=true:=hb;have en:=z6A (r.Columns.getD i default).Name;have ln:(r.Columns.getD i default).Name.data.toList.length=(r.Columns.getD i default).Name.size:=by rw [Array.length_toList]; rfl
   rw [show ByteArray.mk #[(32:UInt8)]=bs [32] from rfl]
   simp only [Wy.ev_i,Wy.ev_k,Wy.ev_h,Wy.ev_bn,Wy.ev_d,tT,hi,ht,qf,List.length_nil,hb,hb',zX (show i<4611686018427387904 by omega),List.map_cons,List.map_nil]
   unfold zms;generalize (r.Columns.getD i default).Name=nm at *;rw [en];simp only [zc9,zbJ,zl7,qg,qf,List.length_nil];rw [okS _ _ (by omega),okS _ _ (by omega),List.append_assoc]; rfl)
  (λH K D=>by
   show (zlp r.Columns r.Columns.length r.Columns.length r ((r.Columns.take r.Columns.length).map λc=>bs (zms c))).ev H K D=_
   unfold zlp;simp only [Wy.ev_i,Wy.ev_k,tT,Nat.lt_irrefl,List.take_length]) n hn
 rw [show zdR (λ_=>true) r.Columns.length 0=true from zdt.2 λ_ _ _=>rfl] at key
 exact key
omit h in
theorem zbdp (t37:yF) (t38 t39:Int) (x:Row) (out:List ByteArray) (hl:x.Values.length<=1000) (hv:∀ v∈x.Values,zh6 v=true/\rng v.Int) (n:Nat) (hn:x.Values.length<n):
  zCv n t37 t38 t39 x.Values x.Values.length (0:Int) out x []=(true,(t37,t38,t39,out,x,x.Values.map λv=>bs (txV v))):=by
 have hreach:zbh=70368744177664:=rfl
 have key:=zcE (W:=zu7) (z:=default) x.Values.length (λi=>((),(),(),t37,t38,t39,x.Values,(x.Values.length:Int),(i:Int),())) (λi=>(out,x,(x.Values.take i).map λv=>bs (txV v),())) (λ_=>true) default (t37,t38,t39,out,x,x.Values.map λv=>bs (txV v))
  (λi hi H K D=>by
   show (zkM t37 t38 t39 x.Values x.Values.length i out x ((x.Values.take i).map λv=>bs (txV v))).ev H K D=_
   unfold zkM;have hx:=hv _ (zL hi);have hb:decide ((((x.Values.take i).map λv=>bs (txV v)).length+1)*16<=zbh)=true:=by simp only [qe,List.length_map,List.length_take]; omega
   rw [zd7 hi,List.map_append];generalize ((x.Values.take i).map λv=>bs (txV v))=l at *
   have hb':decide ((l.length+(0+1))*16<=zbh)=true:=hb;simp only [Wy.ev_i,Wy.ev_k,Wy.ev_h,Wy.ev_bn,Wy.ev_d,tT,hi,zYb hx.1 hx.2,qf,List.length_nil,hb,hb',zX (show i<4611686018427387904 by omega),List.map_cons,List.map_nil])
  (λH K D=>by
   show (zkM t37 t38 t39 x.Values x.Values.length x.Values.length out x ((x.Values.take x.Values.length).map λv=>bs (txV v))).ev H K D=_
   unfold zkM;simp only [Wy.ev_i,Wy.ev_k,tT,Nat.lt_irrefl,List.take_length]) n hn
 rw [show zdR (λ_=>true) x.Values.length 0=true from zdt.2 λ_ _ _=>rfl] at key
 exact key
theorem zbdn (hd:ByteArray) (n:Nat) (hn:r.Rows.length<n):zCc n r.Rows r.Rows.length (0:Int) [hd]=(true,hd::r.Rows.map λx=>bs (zqn x)):=by
 have hreach:zbh=70368744177664:=rfl;have hrl:=h.rows
 have key:=zcE (W:=zvx) (z:=default) r.Rows.length (λi=>((),r.Rows,(r.Rows.length:Int),(i:Int),())) (λi=>(hd::(r.Rows.take i).map λx=>bs (zqn x),())) (λ_=>true) default (hd::r.Rows.map λx=>bs (zqn x))
  (λi hi H K D=>by
   show (zkK r.Rows r.Rows.length i (hd::(r.Rows.take i).map λx=>bs (zqn x))).ev H K D=_
   unfold zkK;obtain ⟨⟨hl,hv⟩,oa,va⟩:=h.row _ (zL hi);have hb:decide (((hd::(r.Rows.take i).map λx=>bs (zqn x)).length+1)*16<=zbh)=true:=by simp only [qe,qf,List.length_map,List.length_take]; omega
   rw [zd7 hi,List.map_append, <- List.cons_append];generalize (hd::(r.Rows.take i).map λx=>bs (zqn x))=out at *
   have hb':decide ((out.length+(0+1))*16<=zbh)=true:=hb;have e15:=λn hn=>zbdp r.Rows (r.Rows.length:Int) (i:Int) (r.Rows.getD i default) out hl hv n hn
   have hf:=(zYQ oa va).1;obtain ⟨_,_,l3⟩:=zXO va oa.2.1;have l4:=zXn (r.Rows.getD i default).Values λv hv'=>(hv v hv').1
   have ej:strings_Join ((r.Rows.getD i default).Values.map λv=>bs (txV v)) (bs [44,32])=(true,bs (zAC (r.Rows.getD i default).Values)):=by
    unfold strings_Join zAC;have:=zHX ((r.Rows.getD i default).Values.map txV) [44,32] (by rw [List.length_map]; omega) (by unfold zAC at l4; omega)
    rwa [List.map_map] at this
   simp only [Wy.ev_i,tT,hi];unfold zqn;rw [show ByteArray.mk #[(32:UInt8),(124:UInt8),(32:UInt8)]=bs [32,124,32] from rfl,show ByteArray.mk #[(44:UInt8),(32:UInt8)]=bs [44,32] from rfl]
   generalize (r.Rows.getD i default)=x at *;rw [Wy.ev_bn,e15 _ (by omega),cond_true]
   simp only [Wy.ev_i,Wy.ev_bn,Wy.ev_h,ej,hf,cond_true,qf,List.length_nil,hb,hb',zX (show i<4611686018427387904 by omega),List.map_cons,List.map_nil,zc9,zbJ,qg]
   rw [okS _ _ (by omega),okS _ _ (by omega),List.append_assoc]; rfl)
  (λH K D=>by
   show (zkK r.Rows r.Rows.length r.Rows.length (hd::(r.Rows.take r.Rows.length).map λx=>bs (zqn x))).ev H K D=_
   unfold zkK;simp only [Wy.ev_i,Wy.ev_k,tT,Nat.lt_irrefl,List.take_length]) n hn
 rw [show zdR (λ_=>true) r.Rows.length 0=true from zdt.2 λ_ _ _=>rfl] at key
 exact key
theorem z86:strings_Join (r.Columns.map λc=>bs (zms c)) (bs [44,32])=(true,bs (zGE r.Columns)):=by
 have h1:=h.cols;have h2:=z2y λc hc=>(h.ty c hc).2
 unfold strings_Join zGE;have:=zHX (r.Columns.map zms) [44,32] (by rw [List.length_map]; omega) (by unfold zGE at h2; omega)
 rwa [List.map_map] at this
end
theorem z7V {r:Relation} (ok:okRel r) (h:zkN r=true->okTx r):zri r=(true,zBg r):=by
 unfold zri zF0 zBg;rw [Wy.fin_bn,z2E r ok,cond_true];cases hv:zkN r with
 | false=>rfl
 | true=>
  have h:=h hv;rw [Wy.fin_i,Bool.not_true,cond_false,Wy.fin_bn,Int.ofNat_eq_natCast,zbdX h _ (by omega),cond_true,show ByteArray.mk #[(44:UInt8),(32:UInt8)]=bs [44,32] from rfl]
  simp only [Wy.fin_bn,z86 h,cond_true,Int.ofNat_eq_natCast,Wy.fin_k];rw [zbdn h _ _ (by omega)]; rfl
theorem zbba {l:yH} (hl:l.length<=1000) (ht:∀ c∈l,(0<=c.Type_/\c.Type_<=2)/\c.Name.size<=100) (n:Nat) (hn:l.length<n):zKz n l (bs []) (0:Int)=(true,bs (zGE l)):=by
 have key:=zcE (W:=zBF) (z:=default) l.length (λi=>(l,bs (zbr ((l.take i).map zms) [44,32]),(i:Int),())) (λ_=>()) (λ_=>true) default (bs (zGE l))
  (λi hi H K D=>by
   show (zq5 l (bs (zbr ((l.take i).map zms) [44,32])) i).ev H K D=_;obtain ⟨⟨t0,t2⟩,hnm⟩:=ht _ (zL hi);have hty:=(zWE t0 t2).2;have l1:=z0H (l.getD i default).Type_;have hjl:=z2y (l:=l.take i) λc hc=>(ht c (List.mem_of_mem_take hc)).2
   rw [List.length_take] at hjl
   replace hjl:(zbr ((l.take i).map zms) [44,32]).length<=112000:=by
    unfold zGE at hjl;have:=Nat.mul_le_mul (Nat.le_trans (Nat.min_le_right i l.length) hl) (Nat.le_refl 112);omega
   have esn:zbr ((l.take (i+1)).map zms) [44,32]=if i=0 then zms (l.getD i default) else zbr ((l.take i).map zms) [44,32]++([44,32]++zms (l.getD i default)):=by
    rw [zd7 hi,List.map_append];by_cases hz:i=0
    ·subst hz; rfl
    ·rw [if_neg hz]
     exact zG7 _ _ _ (by
      intro e;have:=congrArg List.length e;rw [List.length_map,List.length_take,List.length_nil] at this;omega)
   have e0:i=0->zbr ((l.take i).map zms) [44,32]=[]:=λhz=>by subst hz; rfl
   have hgt:decide ((i:Int)>(0:Int))=decide (0<i):=ziv i 0;have hw:IntKind.i64.wrap ((i:Int)+1)=((i+1:Nat):Int):=zX (by omega)
   rw [esn];generalize zbr ((l.take i).map zms) [44,32]=S at *;unfold zq5;have en:=z6A (l.getD i default).Name;have ln:(l.getD i default).Name.data.toList.length=(l.getD i default).Name.size:=by rw [Array.length_toList]; rfl
   rw [show ByteArray.mk #[(44:UInt8),(32:UInt8)]=bs [44,32] from rfl,show ByteArray.mk #[(32:UInt8)]=bs [32] from rfl]
   simp only [Wy.ev_i,Wy.ev_k,Wy.ev_h,Wy.ev_bn,Wy.ev_d,tT,hi,hgt,hty,hw];unfold zms;generalize (l.getD i default).Name=nm at *;rw [en];simp only [zc9,zbJ,zl7,qg,qf,List.length_nil];by_cases hz:i=0
   ·subst hz;rw [if_pos rfl,decide_eq_false (Nat.lt_irrefl 0),e0 rfl];simp only [cond_false,List.length_nil,List.nil_append];rw [okS _ _ (by omega),okS _ _ (by omega),okS _ _ (by omega)]
    simp only [cond_true,List.append_assoc]
   ·rw [if_neg hz,decide_eq_true (by omega)]
    simp only [cond_true];rw [okS _ _ (by omega),okS _ _ (by omega),okS _ _ (by omega),okS _ _ (by omega)]
    simp only [cond_true,List.append_assoc])
  (λH K D=>by
   show (zq5 l (bs (zbr ((l.take l.length).map zms) [44,32])) l.length).ev H K D=_;unfold zq5;simp only [Wy.ev_i,Wy.ev_k,tT,Nat.lt_irrefl,List.take_length]; rfl) n hn
 rw [show zdR (λ_=>true) l.length 0=true from zdt.2 λ_ _ _=>rfl] at key
 exact key
theorem zbd7 {r:Relation} (h:okTx r) (hd:ByteArray) (n:Nat) (hn:r.Rows.length<n):zKc n (0:Int) r [hd]=(true,hd::r.Rows.map λx=>bs (zqn x)):=by
 have hreach:zbh=70368744177664:=rfl;have hrl:=h.rows
 have key:=zcE (W:=zBP) (z:=default) r.Rows.length (λi=>((),(),(i:Int),())) (λi=>(r,hd::(r.Rows.take i).map λx=>bs (zqn x),())) (λ_=>true) default (hd::r.Rows.map λx=>bs (zqn x))
  (λi hi H K D=>by
   show (zqL i r (hd::(r.Rows.take i).map λx=>bs (zqn x))).ev H K D=_
   unfold zqL;obtain ⟨⟨hl,hv⟩,oa,va⟩:=h.row _ (zL hi);have hb:decide (((hd::(r.Rows.take i).map λx=>bs (zqn x)).length+1)*16<=zbh)=true:=by simp only [qe,qf,List.length_map,List.length_take]; omega
   rw [zd7 hi,List.map_append, <- List.cons_append];generalize (hd::(r.Rows.take i).map λx=>bs (zqn x))=out at *
   have hb':decide ((out.length+(0+1))*16<=zbh)=true:=hb;have hf:=(zYQ oa va).2;obtain ⟨_,_,l3⟩:=zXO va oa.2.1;have l4:=zXn (r.Rows.getD i default).Values λv hv'=>(hv v hv').1
   have ej:=z5D (r.Rows.getD i default).Values hl hv;unfold zqn;rw [show ByteArray.mk #[(32:UInt8),(124:UInt8),(32:UInt8)]=bs [32,124,32] from rfl]
   simp only [Wy.ev_i,Wy.ev_bn,Wy.ev_h,tT,hi,ej,hf,qf,List.length_nil,hb,hb',zX (show i<4611686018427387904 by omega),List.map_cons,List.map_nil,zc9,zbJ,qg]
   rw [okS _ _ (by omega),okS _ _ (by omega),List.append_assoc]; rfl)
  (λH K D=>by
   show (zqL r.Rows.length r (hd::(r.Rows.take r.Rows.length).map λx=>bs (zqn x))).ev H K D=_
   unfold zqL;simp only [Wy.ev_i,Wy.ev_k,tT,Nat.lt_irrefl,List.take_length]) n hn
 rw [show zdR (λ_=>true) r.Rows.length 0=true from zdt.2 λ_ _ _=>rfl] at key
 exact key
theorem z7N {r:Relation} (ok:okRel r) (h:zkN r=true->okTx r):zww r=(true,zBg r):=by
 unfold zww zNh zBg;rw [Wy.fin_bn,zYL r ok,cond_true];cases hv:zkN r with
 | false=>rfl
 | true=>
  have h:=h hv
  have eh:zwP r.Columns=(true,bs (zGE r.Columns)):=by
   unfold zwP zNm;rw [Wy.fin_bn,show ByteArray.mk #[]=bs [] from rfl,zbba h.cols h.ty _ (by omega)]; rfl
  rw [Wy.fin_i,Bool.not_true,cond_false,Wy.fin_bn,eh,cond_true];simp only [Wy.fin_bn,cond_true,Wy.fin_k];rw [zbd7 h _ _ (by omega)]; rfl
end Go.Proofs.YtoknknbmfmddbaaGreatDoor
/- The law of validity and texts of relations. -/
set_option maxRecDepth 100000
namespace Go.Proofs.YtoknknbmfmddbaaGreatDoor
open Go Go.Ab
theorem zba5 {cols:yH} {row:yG} (h:zoT cols row=true):∀ v∈row,zh6 v=true:=λv hv=>by
 unfold zoT at h;rw [qc,qe] at h;obtain ⟨i,hi,rfl⟩:=zDy hv;have:=zdt.1 h.2 i (by omega) (by omega)
 unfold zDz at this;rw [qc] at this;exact this.1
theorem zbbD {r:Relation} {rows w:Nat} (hs:smRel rows w r) (hr:rows<=100) (ok:okRel r) (hw:z10 r) (hv:zkN r=true):okTx r:=by
 obtain ⟨v1,v2,v3⟩:=zbat ok hv;unfold zHg at v1;rw [qc,qe] at v1;have hr':=hs.rows;refine ⟨by omega,λc hc=>⟨?_,hs.names c hc⟩,by omega,λx hx=>⟨⟨?_,λv hv'=>⟨zba5 (v3 x hx).1 v hv', ?_⟩⟩,(ok.row x hx).2.1,(v3 x hx).2⟩⟩
 ·have:=List.all_eq_true.1 v1.2 c hc;unfold zI9 at this
  simpa using this
 ·have:=(hs.row x hx).1.1; omega
 ·have hwx:=(hw.2.1 x hx).1.1 v hv';exact zgJ hwx.2.1
theorem v9 (a b:Relation) (l:List ByteArray) (hl:l.length<=1000):∀ (n i:Nat),l.length<i+n->i<=l.length->zn1 n i a b l l=(true,.inr (a,b))
 | 0,i,h1,h2=>by omega
 | n+1,i,h1,h2=>by
  show (znV i a b l l).ev (zB znt (.inl default) n) (λr=>(true,r)) (false,.inl default)=_
  unfold znV;by_cases hi:i<l.length
  ·simp only [Wy.ev_i,Wy.ev_k,Wy.ev_h,Wy.ev_bn,Wy.ev_d,tT,hi,beq_self_eq_true,zX (show i<4611686018427387904 by omega)]
   exact v9 a b l hl n (i+1) (by omega) (by omega)
  ·simp only [Wy.ev_i,Wy.ev_k,Wy.ev_h,Wy.ev_bn,Wy.ev_d,tT,hi]
theorem z1g (a b:Relation) (ha:z10 a) (hb:z10 b):zf5 a b=(true,true):=by
 have l5:smRel 8 30 a->zvQ 1 a b=(true,true):=λsa=>by
  have oa:=sa.ok (by omega) (by omega)
  have ht:=zbbD sa (by omega) oa ha
  have hra:=oa.rows;have key:∀ x∈a.Rows,x.Values.length<=1000000/\okA x.Ann:=λx hx=>⟨(oa.row x hx).1,(oa.row x hx).2.1⟩
  have e1:=zWG a b oa.cols (by omega) key
  have e2:=z8K a b oa.cols (by omega) key
  have e3:zkR a a=(true,true):=by rw [zWG a a oa.cols (by omega) key,decide_eq_true rfl]
  have hf:(zBg a).length<=1000:=by
   unfold zBg;cases zkN a with
   | false=>simp
   | true=>simp only [cond_true,qf,List.length_map]; omega
  have l8:zvZ 1 a b (zBg a) (zBg a)=(true,true):=by
   show (znp a b (zBg a) (zBg a)).ev (zB znn default 0) (λr=>(true,r)) (false,default)=_
   unfold znp;have e9:∀ n,(zBg a).length<n->zn1 n 0 a b (zBg a) (zBg a)=_:=λn hn=>v9 a b (zBg a) hf n 0 (by omega) (by omega)
   rw [Wy.ev_bn,e9 _ (by omega),cond_true]
   simp only [Wy.ev_i,Wy.ev_k,Wy.ev_bn,isL,getL,getR,cond_false,z2E a oa,zYL a oa,e1,e2,e3,beq_self_eq_true,cond_true]
  show (znP a b).ev (zB znK default 0) (λr=>(true,r)) (false,default)=_
  unfold znP;rw [Wy.ev_bn,z7V oa ht,cond_true,Wy.ev_bn,z7N oa ht,cond_true,Wy.ev_i,zrA,decide_eq_true rfl,Bool.not_true,cond_false,Wy.ev_bn,l8]; rfl
 have l3:zvN 1 a b=(true,true):=by
  show (znx a b).ev (zB znN default 0) (λr=>(true,r)) (false,default)=_
  unfold znx
  obtain ⟨q,q1,q2⟩:=zbdV 8 30 [a,b] (by omega) (by omega) (by simp) (λx hx=>by
   simp only [qd,List.not_mem_nil,or_false] at hx;rcases hx with rfl | rfl
   ·exact ha
   ·exact hb)
  replace q1:zzR (8:Int) (30:Int) [a,b]=(true,q):=q1;rw [Wy.ev_bn,q1,cond_true];cases q with
  | false=>rfl
  | true=>rw [Wy.ev_i,Bool.not_true,cond_false,Wy.ev_bn,l5 (q2 rfl a (by simp))]; rfl
 unfold zf5 zwb;rw [Wy.fin_bn,l3]; rfl
end Go.Proofs.YtoknknbmfmddbaaGreatDoor
end
