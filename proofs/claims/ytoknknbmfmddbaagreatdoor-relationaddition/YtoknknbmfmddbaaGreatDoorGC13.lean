/- Texts of this claim, joined (the program, its functions in plain words, and what they compute). -/
import Derived.Test.YtoknknbmfmddbaaGreatDoorGC12
set_option autoImplicit false
set_option linter.unusedVariables false
set_option linter.unusedSectionVars false
set_option linter.unusedSimpArgs false
set_option maxRecDepth 1000000
set_option maxHeartbeats 0
/- Relations: what is valid, and the sum, by the program and the reference. -/
set_option maxRecDepth 100000
noncomputable section
namespace Go.Proofs.YtoknknbmfmddbaaGreatDoor
open Go Go.Ab
def vR (r:Relation) (i:Nat):Bool:=zuD r.Columns (r.Rows.getD i default).Values&&(zhx (r.Rows.getD i default)&&(zR (r.Rows.getD i default).Ann&&(decide (i=0)||decide (cR (r.Rows.getD (i - 1) default) (r.Rows.getD i default)<0))))
def zev (r:Relation):Bool:=zPn r.Columns&&zeb (vR r) r.Rows.length 0
theorem z5D (x:Row):((x.Ann.length:Int)==(0:Int))= !zhx x:=by
 unfold zhx; rw [Bool.not_not]; exact ztf _ 0
theorem zbdK (z:Int):decide (z≥0)= !decide (z<0):=by
 by_cases h:z<0
 ·rw [decide_eq_true h,decide_eq_false (by omega)]; rfl
 ·rw [decide_eq_false h,decide_eq_true (by omega)]; rfl
theorem zFA (r:Relation) (h:okRel r):zhi r=(true,zev r):=by
 unfold zhi zJ8 zev;have hl:=h.rows
 have e1024:decide (Int.ofNat r.Rows.length>(1024:Int))=false:=by
  rw [show decide (Int.ofNat r.Rows.length>(1024:Int))=decide (r.Rows.length>1024) from zly _ 1024]
  exact decide_eq_false (by omega)
 have key:=zcA (W:=zAi) (z:=.inl default) r.Rows.length (λi=>((),r.Rows,(r.Rows.length:Int),(i:Int),())) (λ_=>(r,())) (vR r) (.inl false) (.inr ()) (λi hi H K D=>by
   show (zpm r.Rows r.Rows.length i r).ev H K D=_;unfold zpm;obtain ⟨k1,k2,k3⟩:=h.row _ (zl hi);unfold vR;cases i with
   | zero=>
    simp only [Wy.ev_i,Wy.ev_k,Wy.ev_h,Wy.ev_bn,Wy.ev_d,tT,hi,z0x _ _ h.cols,k2.valid,z5D,zB (show 0<4611686018427387904 by omega)]
    cases zuD r.Columns (r.Rows.getD 0 default).Values <;>cases zhx (r.Rows.getD 0 default) <;>cases zR (r.Rows.getD 0 default).Ann <;>rfl
   | succ j=>
    have hj:j<r.Rows.length:=by omega
    have e0:decide (((j+1:Nat):Int)>(0:Int))=true:=decide_eq_true (by omega)
    have ew:IntKind.i64.wrap (((j+1:Nat):Int) - (1:Int))=(j:Int):=by rw [zbM (by omega) (by omega)]; omega
    have hc:=zeO (r.Rows.getD j default) (r.Rows.getD (j+1) default) (h.row _ (zl hj)).1;simp only [Wy.ev_i,Wy.ev_k,Wy.ev_h,Wy.ev_bn,Wy.ev_d,tT,hi,hj,z0x _ _ h.cols,k2.valid,z5D,e0,ew,hc,zbdK,zB (show j+1<4611686018427387904 by omega),Nat.add_sub_cancel,Nat.succ_ne_zero,Bool.false_or]
    show _=bif zuD r.Columns (r.Rows.getD (j+1) default).Values&&(zhx (r.Rows.getD (j+1) default)&&(zR (r.Rows.getD (j+1) default).Ann&&decide (zxN (r.Rows.getD j default).Values (r.Rows.getD (j+1) default).Values<0))) then _ else _
    cases zuD r.Columns (r.Rows.getD (j+1) default).Values <;>cases zhx (r.Rows.getD (j+1) default) <;>cases zR (r.Rows.getD (j+1) default).Ann <;>cases decide (zxN (r.Rows.getD j default).Values (r.Rows.getD (j+1) default).Values<0) <;>rfl) (λH K D=>by
   show (zpm r.Rows r.Rows.length r.Rows.length r).ev H K D=_;unfold zpm;simp only [Wy.ev_i,Wy.ev_k,Wy.ev_h,Wy.ev_bn,Wy.ev_d,tT,Nat.lt_irrefl]) (r.Rows.length+(Int.ofNat r.Rows.length).toNat +Int.toNat (0:Int)+r.Columns.length+r.Rows.length+(1000:Nat)) (by omega)
 replace key:zHB (r.Rows.length+(Int.ofNat r.Rows.length).toNat +Int.toNat (0:Int)+r.Columns.length+r.Rows.length+(1000:Nat)) r.Rows (Int.ofNat r.Rows.length) 0 r=_:=key;rw [Wy.fin_bn,zLF _ h.cols,cond_true,Wy.fin_i];cases zPn r.Columns with
 | false=>rfl
 | true=>
  rw [Bool.not_true,cond_false,Wy.fin_i,e1024,cond_false,Wy.fin_bn,key];cases zeb (vR r) r.Rows.length 0 <;>rfl
def tyL (l:yH):List Int:=l.map λc=>c.Type_
theorem z9O {a b:yH} (h:a.length=b.length):zeb (λi=>decide ((a.getD i default).Type_=(b.getD i default).Type_)) a.length 0=decide (tyL a=tyL b):=by
 have e:=zU8 (a:=tyL a) (b:=tyL b) (by unfold tyL; rw [List.length_map,List.length_map,h])
 rw [<- e,show (tyL a).length=a.length by unfold tyL; rw [List.length_map]]
 refine zYW _ _ λk _ hk=> ?_
 have ga:∀ l:yH,k<l.length->(tyL l).getD k default=(l.getD k default).Type_:=λl hl=>by
  unfold tyL;rw [List.getD_eq_getElem?_getD,List.getD_eq_getElem?_getD,List.getElem?_map,List.getElem?_eq_getElem hl]; rfl
 rw [ga a (by omega),ga b (by omega)]
theorem zbaN {a b:yH} (h:¬ a.length=b.length):¬ tyL a=tyL b:=λe=>by
 have:=congrArg List.length e;unfold tyL at this;rw [List.length_map,List.length_map] at this;exact h this
theorem z3g (a b:yH) (ha:a.length<=1000000):znI a b=(true,decide (tyL a=tyL b)):=by
 unfold znI zDv zbY zeJ;rw [Wy.fin_bn,Wy.fin_i,zsD,zJO];by_cases he:a.length=b.length
 ·have key:=zcA (W:=zcG) (z:=.inl default) a.length (λi=>(b,(),a,(a.length:Int),(i:Int),())) (λ_=>()) (λi=>decide ((a.getD i default).Type_=(b.getD i default).Type_)) (.inl false) (.inr ()) (λi hi H K D=>by
    show (zbn b a a.length i).ev H K D=_;unfold zbn;have hi':i<b.length:=by omega
    have hc:(zn5 (a.getD i default) (b.getD i default)).2=decide ((a.getD i default).Type_=(b.getD i default).Type_):=zhD _ _;simp only [Wy.ev_i,Wy.ev_k,Wy.ev_h,Wy.ev_bn,Wy.ev_d,tT,hi,hi',hc,zB (show i<4611686018427387904 by omega)]
    cases decide ((a.getD i default).Type_=(b.getD i default).Type_) <;>rfl) (λH K D=>by
    show (zbn b a a.length a.length).ev H K D=_;unfold zbn;simp only [Wy.ev_i,Wy.ev_k,Wy.ev_h,Wy.ev_bn,Wy.ev_d,tT,Nat.lt_irrefl]) (b.length+a.length+(Int.ofNat a.length).toNat +Int.toNat (0:Int)+(1000:Nat)) (by omega)
  replace key:zeG (b.length+a.length+(Int.ofNat a.length).toNat +Int.toNat (0:Int)+(1000:Nat)) b a (Int.ofNat a.length) 0=_:=key;rw [decide_eq_true he,Bool.not_true,cond_false,Wy.fin_bn,key,z9O he];cases decide (tyL a=tyL b) <;>rfl
 ·rw [decide_eq_false he,decide_eq_false (zbaN he)]; rfl
theorem zbdA (n:Nat) (h:n<=4000000):zf0 (n:Int)=(true,[]):=by
 have hreach:zG=70368744177664:=rfl;unfold zf0 ztw;have e0:IntKind.i64.wrap ((0:Int) - 0)=0:=rfl;have e1:IntKind.i64.wrap ((n:Int) - 0)=(n:Int):=by rw [zbM (by omega) (by omega)]; omega
 have e2:decide ((n:Int)<0)=false:=decide_eq_false (by omega)
 rw [Wy.fin_i,e2,cond_false,e0,e1];by_cases hn:(n:Int)>0
 ·have e3:(true&&(decide ((n:Int)*Int.ofNat (48:Nat)<=Int.ofNat zG)&&(decide ((n:Int)<=Int.ofNat zG)&& !Nat.beq (2:Nat) (0:Nat))))=true:=by
   simp only [qc,qe,Int.ofNat_eq_natCast];exact ⟨trivial,by rw [hreach]; omega,by rw [hreach]; omega,rfl⟩
  rw [Wy.fin_i,decide_eq_true hn,cond_true,Wy.fin_i,e3,cond_true,Wy.fin_k];simp
 ·rw [Wy.fin_i,decide_eq_false hn]; rfl
theorem z9m (ls:List (yF)) (hn:ls.length<=10) (h:∀ l∈ls,l.length<=300000):zd7 ls=(true,ls.flatten):=by
 have hreach:zG=70368744177664:=rfl;unfold zd7 zq5;have e:∀ l:yF,l∈ls->l.length<=300000:=h
 have h1:=zcD (W:=zkg) (z:=default) (l:=ls) (λi (n:Nat)=>(ls,(n:Int),ls,(ls.length:Int),(i:Int),())) (λ_ _=>()) (λy n=>.inl (n+y.length)) (λn=>(ls,(n:Int))) (λi n=>n<=i*300000)
  (λi n hi hI=>.inl ⟨_,rfl,by have:=e _ (zl hi); omega,λH K D=>by
   show (zez ls n ls ls.length i).ev H K D=_;unfold zez;have hle:=e _ (zl hi);have hw:IntKind.i64.wrap ((n:Int)+((ls.getD i default).length:Int))=((n+(ls.getD i default).length:Nat):Int):=zmt (by omega)
   simp only [Wy.ev_i,Wy.ev_k,Wy.ev_h,Wy.ev_bn,Wy.ev_d,tT,hi,hw];have h0:decide (((n+(ls.getD i default).length:Nat):Int)<0)=false:=decide_eq_false (by omega)
   rw [h0,zB (by omega)]; rfl⟩)
  (λn hI H K D=>by
   show (zez ls n ls ls.length ls.length).ev H K D=_;unfold zez;simp only [Wy.ev_i,Wy.ev_k,tT,Nat.lt_irrefl]) (ls.length+Int.toNat (0:Int)+ls.length+(Int.ofNat ls.length).toNat +Int.toNat (0:Int)+(1000:Nat)) 0 0 (by omega) (by omega) (by omega)
 rw [List.drop_zero,zcB] at h1;have h1:zqp (ls.length+Int.toNat (0:Int)+ls.length+(Int.ofNat ls.length).toNat +Int.toNat (0:Int)+(1000:Nat)) ls 0 ls (Int.ofNat ls.length) 0=_:=h1
 have hb:∀ (r:List (yF)) (n:Nat),(∀ l∈r,l.length<=300000)->r.foldl (λn (y:yF)=>n+y.length) n<=n+r.length*300000:=λr=>by
  induction r with
  | nil=>intro n _; simp
  | cons y r ih=>
   intro n hr;have q1:=ih (n+y.length) λl hl=>hr l (by simp [hl])
   have q2:=hr y (by simp)
   rw [List.foldl_cons,qf]; omega
 have hsz:=hb ls 0 h
 have h2:=zcD (W:=zjD) (z:=default) (l:=ls) (λi (out:yF)=>((),ls,(ls.length:Int),(i:Int),())) (λ_ out=>(out,())) (λy out=>.inl (out++y)) (λout=>out) (λi out=>out.length<=i*300000)
  (λi out hi hI=>.inl ⟨_,rfl,by have:=e _ (zl hi); simp only [qg]; omega,λH K D=>by
   show (zek ls ls.length i out).ev H K D=_;unfold zek;have hle:=e _ (zl hi);have hr:decide ((out.length+(ls.getD i default).length)*48<=zG)=true:=by simp only [qe]; omega
   simp only [Wy.ev_i,Wy.ev_k,Wy.ev_h,Wy.ev_bn,Wy.ev_d,tT,hi,hr];rw [zB (by omega)]⟩)
  (λout hI H K D=>by
   show (zek ls ls.length ls.length out).ev H K D=_;unfold zek;simp only [Wy.ev_i,Wy.ev_k,tT,Nat.lt_irrefl]) (ls.length+(Int.ofNat ls.length).toNat +Int.toNat (0:Int)+([]:yF).length+(1000:Nat)) 0 [] (by omega) (by omega) (by simp)
 rw [List.drop_zero,zcB] at h2;have h2:zpd (ls.length+(Int.ofNat ls.length).toNat +Int.toNat (0:Int)+([]:yF).length+(1000:Nat)) ls (Int.ofNat ls.length) 0 []=_:=h2
 have hf:∀ (r:List (yF)) (out:yF),r.foldl (λout y=>out++y) out=out++r.flatten:=λr=>by
  induction r with
  | nil=>intro out; simp
  | cons y r ih=>intro out; rw [List.foldl_cons,ih,List.flatten_cons,List.append_assoc]
 rw [Wy.fin_bn,h1,cond_true];simp only [Wy.fin_bn,zbdA _ (show ls.foldl (λn (y:yF)=>n+y.length) 0<=4000000 by have:=Nat.mul_le_mul hn (Nat.le_refl 300000); omega),cond_true,h2,Wy.fin_k]
 rw [hf]; simp
theorem zbaC (a b:yF) (ha:a.length<=1000) (hb:b.length<=1000):zd7 [a,b]=(true,a++b):=by
 rw [z9m [a,b] (by simp) (λl hl=>by
  simp only [qd,List.not_mem_nil,or_false] at hl;rcases hl with rfl | rfl <;>omega)]
 simp
def zeV (a b:Relation):Relation×Int:=bif !zev a then (⟨[],[]⟩,1) else bif !zev b then (⟨[],[]⟩,1) else bif !decide (tyL a.Columns=tyL b.Columns) then (⟨[],[]⟩,7) else zLE ⟨a.Columns,a.Rows++b.Rows⟩
theorem z1w {a b:Relation} (ha:okRel a) (hb:okRel b) (h:a.Rows.length+b.Rows.length<40):okRel ⟨a.Columns,a.Rows++b.Rows⟩ where
 cols:=ha.cols
 rows:=by show (a.Rows++b.Rows).length<40; rw [qg]; exact h
 row:=λx hx=>by
  rcases List.mem_append.1 hx with hx | hx
  ·exact ha.row x hx
  ·exact hb.row x hx
theorem zIR {a b:Relation} (ha:okRel a) (hb:okRel b) (h:a.Rows.length+b.Rows.length<40):zj9 a b=(true,zeV a b):=by
 have ok:=z1w ha hb h;have la:=ha.rows;have lb:=hb.rows;unfold zj9 zOw zeV;rw [Wy.fin_bn,zFA a ha,cond_true,Wy.fin_i];cases zev a with
 | false=>rfl
 | true=>
  rw [Bool.not_true,cond_false,cond_false,Wy.fin_bn,zFA b hb,cond_true,Wy.fin_i];cases zev b with
  | false=>rfl
  | true=>
   rw [Bool.not_true,cond_false,cond_false,Wy.fin_bn,z3g _ _ ha.cols,cond_true,Wy.fin_i];cases decide (tyL a.Columns=tyL b.Columns) with
   | false=>rfl
   | true=>
    rw [Bool.not_true,cond_false,cond_false,Wy.fin_bn,zbaC _ _ (by omega) (by omega),cond_true,Wy.fin_bn,z4e _ ok]; rfl
theorem z8f {a b:Relation} (ha:okRel a) (hb:okRel b) (h:a.Rows.length+b.Rows.length<40):(zeV a b).1.Columns.length<=1000000/\(zeV a b).1.Rows.length<=1000000/\∀ y∈(zeV a b).1.Rows,y.Values.length<=1000000/\okA y.Ann:=by
 have z:∀ n:Int,(((⟨[],[]⟩:Relation),n).1.Columns.length<=1000000)/\((⟨[],[]⟩:Relation),n).1.Rows.length<=1000000/\∀ y∈((⟨[],[]⟩:Relation),n).1.Rows,y.Values.length<=1000000/\okA y.Ann:=λn=>⟨by simp,by simp,λx hx=>by cases hx⟩
 unfold zeV;cases zev a with
 | false=>exact z 1
 | true=>
  cases zev b with
  | false=>exact z 1
  | true=>
   cases decide (tyL a.Columns=tyL b.Columns) with
   | false=>exact z 7
   | true=>exact z9f (z1w ha hb h)
end Go.Proofs.YtoknknbmfmddbaaGreatDoor
/- Sums of valid relations, by what is found in them. -/
set_option maxRecDepth 100000
namespace Go.Proofs.YtoknknbmfmddbaaGreatDoor
open Go Go.Ab
structure NF (M:yF):Prop where
 asc:ztF M
 ok:∀ w∈M,zg6 w
 ne:∀ w∈M,w.Ann≠[]
theorem zbbH {M:yF} (h:∀ i,i+1<M.length->cR (M.getD i default) (M.getD (i+1) default)<0):ztF M:=by
 have all:∀ d i,i+d+1<M.length->cR (M.getD i default) (M.getD (i+d+1) default)<0:=by
  intro d;induction d with
  | zero=>intro i hi; exact h i hi
  | succ d ih=>intro i hi; exact zQl (ih i (by omega)) (h (i+d+1) (by omega))
 refine List.pairwise_iff_getElem.2 λi j hi hj hij=> ?_
 have:=all (j - i - 1) i (by omega)
 rw [show i+(j - i - 1)+1=j by omega] at this
 rw [List.getD_eq_getElem?_getD,List.getD_eq_getElem?_getD,List.getElem?_eq_getElem hi,List.getElem?_eq_getElem hj] at this;exact this
theorem zZD {x:Row}:zhx x=true↔x.Ann≠[]:=by
 unfold zhx; cases x.Ann <;>simp
theorem zI7 {r:Relation} (h:okRel r) (hv:zev r=true):zPn r.Columns=true/\NF r.Rows/\∀ x∈r.Rows,zuD r.Columns x.Values=true/\zR x.Ann=true:=by
 unfold zev at hv;rw [qc] at hv
 have key:∀ i,i<r.Rows.length->zuD r.Columns (r.Rows.getD i default).Values=true/\zhx (r.Rows.getD i default)=true/\zR (r.Rows.getD i default).Ann=true/\(i=0\/cR (r.Rows.getD (i - 1) default) (r.Rows.getD i default)<0):=λi hi=>by
  have:=zdB.1 hv.2 i (by omega) (by omega)
  unfold vR at this
  simpa only [Bool.and_eq_true,Bool.or_eq_true,decide_eq_true_eq] using this
 have mem:∀ x∈r.Rows,∃ i,i<r.Rows.length/\r.Rows.getD i default=x:=λx hx=>zMI hx
 refine ⟨hv.1,⟨zbbH λi hi=> ?_,λx hx=> ?_,λx hx=> ?_⟩,λx hx=> ?_⟩
 ·have:=(key (i+1) hi).2.2.2;rw [Nat.add_sub_cancel] at this;exact this.resolve_left (by omega)
 ·obtain ⟨i,hi,rfl⟩:=mem x hx;exact ⟨(h.row _ (zl hi)).1,(h.row _ (zl hi)).2.1,(key i hi).2.2.1⟩
 ·obtain ⟨i,hi,rfl⟩:=mem x hx;exact zZD.1 (key i hi).2.1
 ·obtain ⟨i,hi,rfl⟩:=mem x hx;exact ⟨(key i hi).1,(key i hi).2.2.1⟩
theorem z2G:∀ {l:yF} (s:yB) (v:yG),ztF l->(l.filter λx=>decide (x.Values=v)).foldl (λs x=>zcJ s x.Ann) s=zcJ s (fnd l v)
 | [],s,v,_=>rfl
 | y::l,s,v,h=>by
  have h':=qi.1 h;rw [List.filter_cons,fnd];by_cases e:y.Values=v
  ·rw [decide_eq_true e,if_pos rfl,if_pos e,List.foldl_cons]
   have:(l.filter λx=>decide (x.Values=v))=[]:=List.filter_eq_nil_iff.2 λx hx=>by
    rw [qe]; intro e2; exact zH1 (h'.1 x hx) (e.trans e2.symm)
   rw [this]; rfl
  ·rw [decide_eq_false e,if_neg (by simp),if_neg e]
   exact z2G s v h'.2
theorem ztA:∀ {M:yF} (v:yG),(∀ w∈M,zg6 w)->zR (fnd M v)=true
 | [],v,_=>z05
 | y::M,v,h=>by
  rw [fnd];split
  ·exact (h y (by simp)).2.2
  ·exact ztA v λw hw=>h w (by simp [hw])
theorem z5h {x:yB} (h:zR x=true):(zi9 [] x).2=0:=by rw [zUp,z34 h]
theorem z5G:∀ {M:yF} {x:Row},ztF M->(∀ w∈M,zg6 w)->zg6 x->((zdr cR zcy M x).isSome=true↔(zi9 (fnd M x.Values) x.Ann).2=0)
 | [],x,_,_,hx=>by
  show (true=true)↔(zi9 [] x.Ann).2=0;simp [z5h hx.2.2]
 | y::M,x,s,k,hx=>by
  have s':=qi.1 s;rw [zdr,fnd];by_cases h1:cR y x<0
  ·rw [if_pos h1,if_neg (zH1 h1),Option.isSome_map];exact z5G s'.2 (λw hw=>k w (by simp [hw])) hx
  ·rw [if_neg h1];by_cases h2:cR y x=0
   ·rw [if_pos h2,if_pos (zVo.1 h2),Option.isSome_map];unfold zcy;split
    ·rename_i h0; simp [h0]
    ·rename_i h0; simp [h0]
   ·rw [if_neg h2,if_neg (λe=>h2 (zVo.2 e))]
    have h3:cR x y<0:=by unfold cR at *; have:=zm5 x.Values y.Values; omega
    have:fnd M x.Values=[]:=zWT λw hw=>(zH1 (zQl h3 (s'.1 w hw))).symm
    rw [this];simp [z5h hx.2.2]
theorem zXu:∀ {b M:yF},ztF M->(∀ w∈M,zg6 w)->ztF b->(∀ w∈b,zg6 w)->((b.foldl (λo x=>o.bind λM=>zdr cR zcy M x) (some M)).isSome=true↔∀ y∈b,(zi9 (fnd M y.Values) y.Ann).2=0)
 | [],M,_,_,_,_=>by simp
 | y::b,M,s,k,sb,kb=>by
  have sb':=qi.1 sb;have hy:=kb y (by simp)
  have hp:=z5G s k hy;rw [List.foldl_cons,Option.bind_some];cases e:zdr cR zcy M y with
  | none=>
   rw [e] at hp;rw [zGB];constructor
   ·intro h; cases h
   ·intro h; exact absurd (hp.2 (h y (by simp))) (by simp)
  | some K=>
   rw [e] at hp;have ih:=zXu (b:=b) (M:=K) (zXA s e) (z0I k hy e) sb'.2 (λw hw=>kb w (by simp [hw]))
   rw [ih];have eq:∀ z∈b,fnd K z.Values=fnd M z.Values:=λz hz=>by rw [zXq s hy e,if_neg (zH1 (sb'.1 z hz))]
   constructor
   ·intro h z hz;rcases qd.1 hz with rfl | hz
    ·exact hp.1 rfl
    ·rw [<- eq z hz]; exact h z hz
   ·intro h z hz;rw [eq z hz]; exact h z (by simp [hz])
theorem z5I {M b:yF} (k:∀ w∈M,zg6 w) (nb:NF b):(∀ y∈b,(zi9 (fnd M y.Values) y.Ann).2=0)↔∀ v,(zi9 (fnd M v) (fnd b v)).2=0:=by
 constructor
 ·intro h v;by_cases e:fnd b v=[]
  ·rw [e,z34 (ztA v k)]
  ·obtain ⟨w,w1,w2,w3⟩:=zPf e;have:=h w w1;rw [w2,w3] at this; exact this
 ·intro h y hy;have:=h y.Values
  rwa [zEq nb.asc hy] at this
theorem zbcQ {p q:yB} (hp:Srs p) (h:zcJ p q=[]):p=[]/\q=[]:=by
 constructor
 ·cases p with
  | nil=>rfl
  | cons t p=>
   obtain ⟨y,y1,_⟩:=(zZ4 q (t::p) hp t.Fs).2 (.inl ⟨t,by simp,rfl⟩)
   rw [h] at y1; cases y1
 ·cases q with
  | nil=>rfl
  | cons t q=>
   obtain ⟨y,y1,_⟩:=(zZ4 (t::q) p hp t.Fs).2 (.inr ⟨t,by simp,rfl⟩)
   rw [h] at y1; cases y1
theorem z1k:∀ {M:yF} {x:Row},(∀ w∈M,cR w x<0)->zdr cR zcy M x=some (M++[x])
 | [],x,_=>rfl
 | y::M,x,h=>by
  rw [zdr,if_pos (h y (by simp)),z1k λw hw=>h w (by simp [hw])]; rfl
theorem z1r:∀ {l M:yF},ztF (M++l)->l.foldl (λo x=>o.bind λM=>zdr cR zcy M x) (some M)=some (M++l)
 | [],M,_=>by simp
 | x::l,M,h=>by
  have hx:=List.pairwise_append.1 h;rw [List.foldl_cons,Option.bind_some,z1k λw hw=>hx.2.2 w hw x (by simp)]
  have e:M++x::l=(M++[x])++l:=by simp
  rw [e] at h ⊢;exact z1r h
def zuI (A B:yF):Option (yF):=B.foldl (λo x=>o.bind λM=>zdr cR zcy M x) (some A)
def zEv (cols:yH) (A B:yF):Relation×Int:=match zuI A B with
 | none=>(⟨[],[]⟩,6)
 | some N=>(⟨cols,N⟩,0)
theorem zAF {A B N:yF} (hA:NF A) (hB:NF B) (h:zuI A B=some N):NF N/\(∀ v,fnd N v=zcJ (fnd A v) (fnd B v))/\N.length<=A.length+B.length:=by
 obtain ⟨h1,h2,h3,h4⟩:=z3C hA.asc hA.ok hB.ok h;have h5:∀ v,fnd N v=zcJ (fnd A v) (fnd B v):=λv=>by rw [h3,z2G _ _ hB.asc]
 refine ⟨⟨h1,h2,λw hw e=> ?_⟩,h5,zPP h⟩
 have e1:=zEq h1 hw;rw [h5,e] at e1;obtain ⟨z1,z2⟩:=zbcQ (zoV (ztA w.Values hA.ok)).1 e1;rcases h4 w hw with ⟨x,x1,x2⟩ | ⟨x,x1,x2⟩
 ·have:=zEq hB.asc x1;rw [x2,z2] at this;exact hB.ne x x1 this.symm
 ·have:=zEq hA.asc x1;rw [x2,z1] at this;exact hA.ne x x1 this.symm
theorem z7o {A B:yF} (hA:NF A) (hB:NF B):zuI A B=zuI B A:=by
 have i1:=(zXu hA.asc hA.ok hB.asc hB.ok).trans (z5I hA.ok hB);have i2:=(zXu hB.asc hB.ok hA.asc hA.ok).trans (z5I hB.ok hA)
 have i3:(zuI A B).isSome=true↔(zuI B A).isSome=true:=by
  unfold zuI;rw [i1,i2];exact ⟨λh v=>by rw [zUp]; exact h v,λh v=>by rw [zUp]; exact h v⟩
 cases e1:zuI A B with
 | none=>
  cases e2:zuI B A with
  | none=>rfl
  | some N=>rw [e1,e2] at i3; exact absurd (i3.2 rfl) (by simp)
 | some N=>
  cases e2:zuI B A with
  | none=>rw [e1,e2] at i3; exact absurd (i3.1 rfl) (by simp)
  | some K=>
   obtain ⟨n1,n2,_⟩:=zAF hA hB e1;obtain ⟨k1,k2,_⟩:=zAF hB hA e2;rw [z6e n1.asc k1.asc n1.ne k1.ne λv=>by rw [n2,k2,z28 (zoV (ztA v hA.ok)) (zoV (ztA v hB.ok))]]
theorem z4N {A B C N K V W:yF} (hA:NF A) (hB:NF B) (hC:NF C) (h1:zuI A B=some N) (h2:zuI B C=some K) (h3:zuI N C=some V) (h4:zuI A K=some W):V=W:=by
 obtain ⟨n1,n2,_⟩:=zAF hA hB h1;obtain ⟨k1,k2,_⟩:=zAF hB hC h2;obtain ⟨v1,v2,_⟩:=zAF n1 hC h3;obtain ⟨w1,w2,_⟩:=zAF hA k1 h4
 exact z6e v1.asc w1.asc v1.ne w1.ne λv=>by
  rw [v2,n2,w2,k2,z7D (zoV (ztA v hA.ok)) (zoV (ztA v hB.ok)) (zoV (ztA v hC.ok))]
theorem z8h {cols:yH}:∀ {l:yF},(∀ x∈l,zuD cols x.Values=true/\zR x.Ann=true)->zHe cols l=0
 | [],_=>rfl
 | y::l,h=>by
  rw [zHe,(h y (by simp)).1,(h y (by simp)).2]
  exact z8h λx hx=>h x (by simp [hx])
theorem zCi {a b:Relation} (oa:okRel a) (ob:okRel b) (va:zev a=true) (vb:zev b=true) (ec:a.Columns=b.Columns):zeV a b=zEv a.Columns a.Rows b.Rows:=by
 obtain ⟨a1,a2,a3⟩:=zI7 oa va;obtain ⟨b1,b2,b3⟩:=zI7 ob vb;unfold zeV zEv zuI;rw [va,vb,decide_eq_true (by rw [ec])]
 simp only [Bool.not_true,cond_false];unfold zLE
 have hf:((a.Rows++b.Rows).filter zhx)=a.Rows++b.Rows:=List.filter_eq_self.2 λx hx=>by
  rcases List.mem_append.1 hx with hx | hx
  ·exact zZD.2 (a2.ne x hx)
  ·exact zZD.2 (b2.ne x hx)
 have hk:zHe a.Columns (a.Rows++b.Rows)=0:=z8h λx hx=>by
  rcases List.mem_append.1 hx with hx | hx
  ·exact a3 x hx
  ·rw [ec]; exact b3 x hx
 have hA:=z1r (l:=a.Rows) (M:=[]) (by simpa using a2.asc)
 rw [List.nil_append] at hA;simp only [a1,hk,hf,if_true,Bool.true_eq_false,if_false,List.foldl_append,hA];cases b.Rows.foldl (λo x=>o.bind λM=>zdr cR zcy M x) (some a.Rows) <;>rfl
end Go.Proofs.YtoknknbmfmddbaaGreatDoor
/- The law of sums of relations. -/
set_option maxRecDepth 100000
namespace Go.Proofs.YtoknknbmfmddbaaGreatDoor
open Go Go.Ab
theorem zF1 (e:Int):(e != e)=false:=by rw [zsD]; simp
theorem zZl {e:Int} (h:¬ e=0):(e != (0:Int))=true:=by rw [zsD,decide_eq_false h]; rfl
theorem z8g {M:yF} (h:∀ x∈M,zbH x.Ann) (v:yG):zbH (fnd M v):=by
 by_cases e:fnd M v=[]
 ·rw [e]; exact zy1
 ·obtain ⟨w,w1,_,w3⟩:=zPf e;rw [<- w3]; exact h w w1
theorem z9I {cols:yH} (hc:cols.length<=1000000):okRel ⟨cols,[]⟩:=⟨hc,by simp,λx hx=>by cases hx⟩
theorem z1F {cols:yH} {A B N:yF} (hc:cols.length<=1000000) (hA:NF A) (hB:NF B) (sA:∀ x∈A,zbH x.Ann) (sB:∀ x∈B,zbH x.Ann) (hl:A.length+B.length<40) (h:zuI A B=some N):okRel ⟨cols,N⟩:=by
 obtain ⟨n1,n2,n3⟩:=zAF hA hB h;refine ⟨hc,by show N.length<40; omega,λx hx=>⟨(n1.ok x hx).1,(n1.ok x hx).2.1,λ_=> ?_⟩⟩
 have e:=zEq n1.asc hx;rw [<- e,n2];exact z8B (zoV (ztA _ hA.ok)).1 (z8g sA _) (z8g sB _)
theorem z0E (a b c:Relation) (ha:zZJ a) (hb:zZJ b) (hc:zZJ c):zhc a b c=(true,true):=by
 have l5:okRel a->okRel b->okRel c->a.Rows.length<=8->b.Rows.length<=8->c.Rows.length<=8->zev a=true->zev b=true->zev c=true->a.Columns=b.Columns->a.Columns=c.Columns->zxK 1 a b c=(true,true):=λoa ob oc la lb lc va vb vc eb ec=>by
  obtain ⟨a1,na,a3⟩:=zI7 oa va;obtain ⟨b1,nb,b3⟩:=zI7 ob vb;obtain ⟨c1,nc,c3⟩:=zI7 oc vc;have sa:∀ x∈a.Rows,zbH x.Ann:=λx hx=>(oa.row x hx).2.2 (a3 x hx).2
  have sb:∀ x∈b.Rows,zbH x.Ann:=λx hx=>(ob.row x hx).2.2 (b3 x hx).2
  have sc:∀ x∈c.Rows,zbH x.Ann:=λx hx=>(oc.row x hx).2.2 (c3 x hx).2
  have rab:=zCi oa ob va vb eb;have rba:=zCi ob oa vb va eb.symm;have rbc:=zCi ob oc vb vc (eb.symm.trans ec)
  have comm:zeV b a=zeV a b:=by
   rw [rab,rba]; unfold zEv; rw [z7o nb na,eb]
  have oe:okRel ⟨a.Columns,[]⟩:=z9I oa.cols
  have ve:zev ⟨a.Columns,[]⟩=true:=by
   unfold zev; rw [a1]; rfl
  have rae:zeV a ⟨a.Columns,[]⟩=(a,0):=by
   rw [zCi oa oe va ve rfl]; rfl
  have kab:=z8f oa ob (by omega)
  have ea:zfZ a a=(true,true):=by
   rw [zMT a a oa.cols (by omega) (λx hx=>⟨(oa.row x hx).1,(oa.row x hx).2.1⟩),decide_eq_true rfl]
  have eab:zfZ (zeV a b).1 (zeV a b).1=(true,true):=by
   rw [zMT _ _ kab.1 kab.2.1 kab.2.2,decide_eq_true rfl]
  have l10:zoR 1 (zeV a b).2 a b c (zeV a b).1=(true,true):=by
   show (zoG (zeV a b).2 a b c (zeV a b).1).ev (zA zox default 0) (λr=>(true,r)) (false,default)=_
   unfold zoG;rw [Wy.ev_bn,zIR ob oc (by omega),cond_true,Wy.ev_i]
   by_cases h1:(zeV a b).2=0
   ·rw [h1,zF1,cond_false,Wy.ev_i];by_cases h2:(zeV b c).2=0
    ·rw [h2,zF1,cond_false];cases e1:zuI a.Rows b.Rows with
     | none=>rw [rab] at h1; unfold zEv at h1; rw [e1] at h1; cases h1
     | some N=>
      cases e2:zuI b.Rows c.Rows with
      | none=>rw [rbc] at h2; unfold zEv at h2; rw [e2] at h2; cases h2
      | some K=>
       have xab:zeV a b=(⟨a.Columns,N⟩,0):=by rw [rab]; unfold zEv; rw [e1]
       have xbc:zeV b c=(⟨a.Columns,K⟩,0):=by rw [rbc]; unfold zEv; rw [e2,eb]
       obtain ⟨n1,n2,n3⟩:=zAF na nb e1;obtain ⟨k1,k2,k3⟩:=zAF nb nc e2;have on:okRel ⟨a.Columns,N⟩:=z1F oa.cols na nb sa sb (by omega) e1
       have ok:okRel ⟨a.Columns,K⟩:=z1F oa.cols nb nc sb sc (by omega) e2
       have hN:(⟨a.Columns,N⟩:Relation).Rows.length+c.Rows.length<40:=by show N.length+_<40; omega
       have hK:a.Rows.length+(⟨a.Columns,K⟩:Relation).Rows.length<40:=by show _+K.length<40; omega
       have l13:zwx 1 a c ⟨a.Columns,N⟩ ⟨a.Columns,K⟩=(true,true):=by
        show (zoK a c ⟨a.Columns,N⟩ ⟨a.Columns,K⟩).ev (zA zoE default 0) (λr=>(true,r)) (false,default)=_
        unfold zoK;rw [Wy.ev_bn,zIR on oc hN,cond_true,Wy.ev_bn,zIR oa ok hK,cond_true,Wy.ev_i];by_cases h3:(zeV ⟨a.Columns,N⟩ c).2=0
        ·rw [h3,zF1,cond_false,Wy.ev_i];by_cases h4:(zeV a ⟨a.Columns,K⟩).2=0
         ·rw [h4,zF1,cond_false]
          have vn:zev ⟨a.Columns,N⟩=true:=by
           cases h:zev ⟨a.Columns,N⟩ with
           | true=>rfl
           | false=>unfold zeV at h3; rw [h] at h3; cases h3
          have vk:zev ⟨a.Columns,K⟩=true:=by
           cases h:zev ⟨a.Columns,K⟩ with
           | true=>rfl
           | false=>unfold zeV at h4; rw [va,h] at h4; cases h4
          have r3:=zCi on oc vn vc ec;have r4:=zCi oa ok va vk rfl;have r3':zeV ⟨a.Columns,N⟩ c=zEv a.Columns N c.Rows:=r3;have r4':zeV a ⟨a.Columns,K⟩=zEv a.Columns a.Rows K:=r4;cases e3:zuI N c.Rows with
          | none=>rw [r3'] at h3; unfold zEv at h3; rw [e3] at h3; cases h3
          | some V=>
           cases e4:zuI a.Rows K with
           | none=>rw [r4'] at h4; unfold zEv at h4; rw [e4] at h4; cases h4
           | some W=>
            have x3:zeV ⟨a.Columns,N⟩ c=(⟨a.Columns,V⟩,0):=by rw [r3']; unfold zEv; rw [e3]
            have x4:zeV a ⟨a.Columns,K⟩=(⟨a.Columns,W⟩,0):=by rw [r4']; unfold zEv; rw [e4]
            obtain ⟨v1,v2,v3⟩:=zAF n1 nc e3;have eVW:=z4N na nb nc e1 e2 e3 e4;rw [x3,x4, <- eVW]
            have:zfZ ⟨a.Columns,V⟩ ⟨a.Columns,V⟩=(true,true):=by
             rw [zMT ⟨a.Columns,V⟩ ⟨a.Columns,V⟩ oa.cols (by show V.length<=_; omega) (λx hx=>⟨(v1.ok x hx).1,(v1.ok x hx).2.1⟩),decide_eq_true rfl]
            simp only [Wy.ev_bn,Wy.ev_k,this,cond_true]
         ·rw [zZl h4]; rfl
        ·rw [zZl h3]; rfl
       rw [xab,xbc];simp only [Wy.ev_bn,Wy.ev_k,l13,cond_true]
    ·rw [zZl h2]; rfl
   ·rw [zZl h1]; rfl
  show (zpP a b c).ev (zA zpO default 0) (λr=>(true,r)) (false,default)=_
  unfold zpP;have pab:=zIR oa ob (by omega)
  have pba:=zIR ob oa (by omega)
  have pae:=zIR oa oe (by show _+0<40; omega)
  rw [comm] at pba;rw [rae] at pae;simp only [Wy.ev_i,Wy.ev_bn,Wy.ev_k,pab,pba,z87 _ oa.cols,pae,cond_true,cond_false,zF1,eab,ea,l10,Bool.not_true];cases ((zeV a b).2==(0:Int)) <;>rfl
 have l3:zxV 1 a b c=(true,true):=by
  show (zpW a b c).ev (zA zpE default 0) (λr=>(true,r)) (false,default)=_
  unfold zpW
  obtain ⟨q,q1,q2⟩:=zbd7 8 20 [a,b,c] (by omega) (by omega) (by simp) (λr hr=>by
   simp only [qd,List.not_mem_nil,or_false] at hr;rcases hr with rfl | rfl | rfl
   ·exact ha
   ·exact hb
   ·exact hc)
  replace q1:zCk (8:Int) (20:Int) [a,b,c]=(true,q):=q1;rw [Wy.ev_bn,q1,cond_true];cases q with
  | false=>rfl
  | true=>
   have ka:=q2 rfl a (by simp)
   have kb:=q2 rfl b (by simp)
   have kc:=q2 rfl c (by simp)
   have oa:=ka.ok (by omega) (by omega)
   have ob:=kb.ok (by omega) (by omega)
   have oc:=kc.ok (by omega) (by omega)
   simp only [Wy.ev_i,Wy.ev_bn,Wy.ev_k,zFA _ oa,zFA _ ob,zFA _ oc,z0v _ _ oa.cols,cond_true,Bool.not_true,cond_false];cases va:zev a with
   | false=>rfl
   | true=>
    cases vb:zev b with
    | false=>rfl
    | true=>
     cases vc:zev c with
     | false=>rfl
     | true=>
      by_cases eb:a.Columns=b.Columns
      ·by_cases ec:a.Columns=c.Columns
       ·rw [decide_eq_true eb,decide_eq_true ec,l5 oa ob oc ka.rows kb.rows kc.rows va vb vc eb ec]; rfl
       ·rw [decide_eq_true eb,decide_eq_false ec]; rfl
      ·rw [decide_eq_false eb]; rfl
 unfold zhc zyW;rw [Wy.fin_bn,l3]; rfl
end Go.Proofs.YtoknknbmfmddbaaGreatDoor
end
