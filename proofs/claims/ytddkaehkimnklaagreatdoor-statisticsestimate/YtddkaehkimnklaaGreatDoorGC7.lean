/- Texts of this claim, joined (the program, its functions in plain words, and what they compute). -/
import Derived.Test.YtddkaehkimnklaaGreatDoorGC1
import Derived.Test.YtddkaehkimnklaaGreatDoorGA3
import Derived.Test.YtddkaehkimnklaaGreatDoorGC6
import Derived.Test.YtddkaehkimnklaaGreatDoorGC4
import Derived.Test.YtddkaehkimnklaaGreatDoorGC5
set_option autoImplicit false
set_option linter.unusedVariables false
set_option linter.unusedSectionVars false
set_option linter.unusedSimpArgs false
set_option maxRecDepth 1000000
set_option maxHeartbeats 0
noncomputable section
namespace Go.Proofs.YtddkaehkimnklaaGreatDoor
open Go Go.Ab
def colV (rows:List Row) (k:Nat):List Value:=rows.map fun r=>r.Values.getD k default
theorem zFL (rows:List Row) (k i:Nat) (hi:i<rows.length):(colV rows k).getD i default=(rows.getD i default).Values.getD k default:=by
 show ((rows.map fun r=>r.Values.getD k default)[i]?).getD default=((rows[i]?).getD default).Values.getD k default
 rw [List.getElem?_map,List.getElem?_eq_getElem hi]; rfl
def wide (rows:List Row) (k:Nat):Prop:=∀ r∈rows,k<r.Values.length
def okT (t:Table):Bool:=zou t.Columns&&t.Rows.all fun r=>fitR t.Columns r.Values
def zj6 (t:Table) (n:Nat):List ColumnStats:=(List.range n).map fun k=>colR (colV t.Rows k)
theorem zG6 (t:Table) (n:Nat):zj6 t (n+1)=zj6 t n++[colR (colV t.Rows n)]:=by
 unfold zj6; rw [List.range_succ,List.map_append]; rfl
theorem zvj (t:Table) (n:Nat):(zj6 t n).length=n:=by simp [zj6]
def gatR (t:Table):Stats:=bif okT t then ⟨t.ID,(t.Rows.length:Int),zj6 t t.Columns.length⟩ else ⟨0,0,[]⟩
theorem zFQ {t:Table} (h:okT t=true) {k:Nat} (hk:k<t.Columns.length):wide t.Rows k:=fun r hr=>by
 unfold okT at h
 simp only [Bool.and_eq_true,List.all_eq_true] at h
 have:=h.2 r hr
 unfold fitR at this
 simp only [Bool.and_eq_true,decide_eq_true_eq] at this
 omega
theorem zEP {t:Table} (h:okT t=true):t.Columns.length≤16:=by
 unfold okT zou at h
 simp only [Bool.and_eq_true,decide_eq_true_eq] at h
 exact h.1.1
theorem zEd (t:Table) (k:Nat) (hw:wide t.Rows k) (hl:t.Rows.length≤100000) (a b:Int) (c d e f:Int) (b4:List ColumnStats):∀ (n i:Nat),t.Rows.length<i+n→i≤t.Rows.length→
  zlv n k a b t.Rows t.Rows.length i t c d e f ((colV t.Rows k).take i) b4=(true,(a,b,t,c,d,e,f,colV t.Rows k,b4))
 | 0,i,h,h2=>by omega
 | n+1,i,h,h2=>by
  have hcl:(colV t.Rows k).length=t.Rows.length:=by simp [colV]
  show (zls k a b t.Rows t.Rows.length i t c d e f ((colV t.Rows k).take i) b4).ev (zO ziN default n) (fun r=>(true,r)) (false,default)=_
  unfold zls
  by_cases hi:i<t.Rows.length
  ·have hk:=hw _ (zc6 hi)
   have hg:=zFL t.Rows k i hi
   simp only [Wy.ev_i,Wy.ev_k,Wy.ev_h,Wy.ev_bn,Wy.ev_d,tT,hi,hk]
   rw [decide_eq_true (zGk (by rw [List.length_take]; simp; omega)),cond_true,zcs (by omega), ← hg, ← zDe (l:=colV t.Rows k) (by omega)]
   exact zEd t k hw hl a b c d e f b4 n (i+1) (by omega) (by omega)
  ·simp only [Wy.ev_i,Wy.ev_k,Wy.ev_h,Wy.ev_bn,Wy.ev_d,tT,hi]
   rw [List.take_of_length_le (by omega)]
theorem zDT (t:Table) (hr:t.Rows.length≤1000) (hc:t.Columns.length≤16) (hw:∀ k,k<t.Columns.length→wide t.Rows k) (a b c d:Int):∀ (n i:Nat),t.Columns.length<i+n→i≤t.Columns.length→
  zlm n t.Columns.length i t a b c d (zj6 t i)=(true,(a,b,c,d,zj6 t t.Columns.length))
 | 0,i,h,h2=>by omega
 | n+1,i,h,h2=>by
  show (zlk t.Columns.length i t a b c d (zj6 t i)).ev (zO ziI default n) (fun r=>(true,r)) (false,default)=_
  unfold zlk
  by_cases hi:i<t.Columns.length
  ·have hcl:(colV t.Rows i).length=t.Rows.length:=by simp [colV]
   have key:∀ n,t.Rows.length<n→zlv n i t.Columns.length i t.Rows (Int.ofNat t.Rows.length) 0 t a b c d [] (zj6 t i)=(true,((t.Columns.length:Int),(i:Int),t,a,b,c,d,colV t.Rows i,zj6 t i)):=fun n hn=>
    zEd t i (hw i hi) (by omega) t.Columns.length i a b c d (zj6 t i) n 0 (by omega) (by omega)
   rw [Wy.ev_i,zAH,decide_eq_true hi,cond_true,Wy.ev_bn,key _ (by omega),cond_true]
   dsimp only
   rw [Wy.ev_bn,zIh (colV t.Rows i) (by omega),cond_true,Wy.ev_i]
   rw [decide_eq_true (zp7 (show (zj6 t i).length+[colR (colV t.Rows i)].length≤1073741824 by rw [zvj]; simp; omega) (by omega)),cond_true,Wy.ev_h,zcs (by omega), ← zG6]
   exact zDT t hr hc hw a b c d n (i+1) (by omega) (by omega)
  ·have:i=t.Columns.length:=by omega
   subst this
   rw [Wy.ev_i,zAH,decide_eq_false (Nat.lt_irrefl _)]; rfl
theorem zH0 (t:Table) (hr:t.Rows.length≤1000) (hc:t.Columns.length≤1000):zjf t=(true,gatR t):=by
 unfold zjf zm9
 have hg:decide (Int.ofNat t.Rows.length>(1000000:Int))=false:=decide_eq_false (by show ¬ (t.Rows.length:Int)>1000000; omega)
 have hrc:decide (((0:Nat)+t.Rows.length)*(48:Nat)≤reach)=true:=decide_eq_true (zp7 (by omega) (by omega))
 rw [Wy.fin_i,hg,cond_false,Wy.fin_i,hrc,cond_true]
 simp only [List.nil_append]
 have l4:∀ n,t.Rows.length<n→zry n (Int.ofNat t.Rows.length) 0 t 0 0 t.Rows=(true,bif allN (fun i=>zou t.Columns&&fitR t.Columns (t.Rows.getD i default).Values) t.Rows.length 0 then .inr (t,0,0) else .inl (0,0)):=fun n hn=>
  zIi (W:=zjk) (z:=.inl default) t.Rows.length (fun i=>((),(),(),Int.ofNat t.Rows.length,(i:Int),())) (fun _=>(t,(0,0,(),()),t.Rows,())) (fun i=>zou t.Columns&&fitR t.Columns (t.Rows.getD i default).Values) (.inl (0,0)) (.inr (t,0,0)) (fun i hi H K D=>by
    show (zht (Int.ofNat t.Rows.length) i t 0 0 t.Rows).ev H K D=_
    unfold zht
    obtain ⟨r,hn1⟩:=zIX t.Columns (t.Rows.getD i default).Values (by omega)
    simp only [Wy.ev_i,Wy.ev_k,Wy.ev_h,Wy.ev_bn,Wy.ev_d,tT,hi,hn1,zcs (show i<4611686018427387904 by omega)]
    cases zou t.Columns <;>cases fitR t.Columns (t.Rows.getD i default).Values <;>rfl) (fun H K D=>by
    show (zht (Int.ofNat t.Rows.length) t.Rows.length t 0 0 t.Rows).ev H K D=_
    unfold zht
    simp only [Wy.ev_i,Wy.ev_k,Wy.ev_h,Wy.ev_bn,Wy.ev_d,tT,Nat.lt_irrefl]) n hn
 obtain ⟨r0,hn0⟩:=zID t.Columns (by omega)
 rw [Wy.fin_bn,l4 _ (by omega),zHM (fun r:Row=>zou t.Columns&&fitR t.Columns r.Values),cond_true]
 unfold gatR
 cases hok:zou t.Columns with
 | false=>
  have hT:okT t=false:=by unfold okT; rw [hok]; rfl
  rw [hT]
  cases hrow:t.Rows with
  | nil=>
   simp only [List.all_nil,cond_true,Wy.fin_i,isL,getR,cond_false]
   rw [Wy.fin_bn,hn0,hok]; rfl
  | cons x rr=>rfl
 | true=>
  have hT:okT t=t.Rows.all fun r=>true&&fitR t.Columns r.Values:=by unfold okT; rw [hok,Bool.true_and]; simp only [Bool.true_and]
  rw [← hT]
  cases hf:okT t with
  | false=>rfl
  | true=>
   have h15:∀ n,t.Columns.length<n→zlm n (Int.ofNat t.Columns.length) 0 t 0 0 t.ID (Int.ofNat t.Rows.length) []=(true,(0,0,t.ID,Int.ofNat t.Rows.length,zj6 t t.Columns.length)):=fun n hn=>
    zDT t hr (zEP hf) (fun k hk=>zFQ hf hk) 0 0 t.ID (Int.ofNat t.Rows.length) n 0 (by omega) (by omega)
   simp only [cond_true,Wy.fin_i,isL,getR,cond_false]
   rw [Wy.fin_bn,hn0,hok,cond_true]
   simp only [Wy.fin_i]
   show (bif ((0:Int) != 0) then _ else _)=_
   rw [show ((0:Int) != 0)=false from rfl,cond_false,Wy.fin_bn,h15 _ (by omega)]
   rfl
theorem zzq:∀ {l:List Factor},zkv l→∀ x∈l,znR x
 | [],_,x,hx=>by cases hx
 | y::r,h,x,hx=>by
  unfold zkv at h
  rcases List.mem_cons.1 hx with rfl | hx
  ·exact h.1
  ·exact zzq h.2 x hx
theorem zz9:∀ {l:List Term},zk2 l→∀ x∈l,ztI x
 | [],_,x,hx=>by cases hx
 | y::r,h,x,hx=>by
  unfold zk2 at h
  rcases List.mem_cons.1 hx with rfl | hx
  ·exact h.1
  ·exact zz9 h.2 x hx
theorem zCx:∀ {l:List (List Term)},zrD l→∀ x∈l,zk2 x∧x.length≤roomLen
 | [],_,x,hx=>by cases hx
 | y::r,h,x,hx=>by
  unfold zrD at h
  rcases List.mem_cons.1 hx with rfl | hx
  ·exact h.1
  ·exact zCx h.2 x hx
theorem zBm:∀ {l:List Weighted},zos l→∀ x∈l,wf40 x.Value∧zk2 x.Ann∧x.Ann.length≤roomLen
 | [],_,x,hx=>by cases hx
 | y::r,h,x,hx=>by
  unfold zos at h
  rcases List.mem_cons.1 hx with rfl | hx
  ·have:=h.1; unfold zxL at this; exact ⟨this.1,this.2.1,this.2.2⟩
  ·exact zBm h.2 x hx
theorem zCo {t:Term} (h:ztI t):wf2 t.Coeff∧zkv t.Factors∧t.Factors.length≤roomLen:=by
 unfold ztI at h; exact ⟨h.1,h.2.1,h.2.2⟩
theorem zE7 {t:Factor} (h:znR t):zvx t.Atom∧wf3 t.Exp:=by
 unfold znR at h; exact h
theorem zHt {x:Atom} (h:zvx x):(zrD x.Args∧x.Args.length≤roomLen)∧(zos x.Items∧x.Items.length≤roomLen)∧wf40 x.Bound∧wf3 x.Kind∧zHk x.Row∧wf3 x.Func∧wf3 x.Op:=by
 obtain ⟨k,r,a,f,i,o,b⟩:=x; unfold zvx at h; exact ⟨h.2.2.1,h.2.2.2.2.1,h.2.2.2.2.2.2,h.1,h.2.1,h.2.2.2.1,h.2.2.2.2.2.1⟩
mutual
def zAY:Atom→Nat
 | ⟨_,_,a,_,i,_,b⟩=>i.length+a.length+b.Text.size+zox a+zmL i
def zju:List Factor→Nat
 | []=>0
 | ⟨x,_⟩::r=>zAY x+zju r
def zhe:List Term→Nat
 | []=>0
 | ⟨_,fs⟩::r=>1+fs.length+zju fs+zhe r
def zox:List (List Term)→Nat
 | []=>0
 | a::r=>zhe a+zox r
def zmL:List Weighted→Nat
 | []=>0
 | ⟨v,a⟩::r=>v.Text.size+zhe a+zmL r
end
theorem zGZ (x:Atom):zAY x=x.Items.length+x.Args.length+x.Bound.Text.size+zox x.Args+zmL x.Items:=by cases x; rw [zAY]
theorem zCR (f:Factor) (r:List Factor):zju (f::r)=zAY f.Atom+zju r:=by cases f; rw [zju]
theorem zGb (t:Term) (r:List Term):zhe (t::r)=1+t.Factors.length+zju t.Factors+zhe r:=by cases t; rw [zhe]
theorem zE2 (a:List Term) (r:List (List Term)):zox (a::r)=zhe a+zox r:=by rw [zox]
theorem zEj (w:Weighted) (r:List Weighted):zmL (w::r)=w.Value.Text.size+zhe w.Ann+zmL r:=by cases w; rw [zmL]
theorem zF0:zox []=0:=by rw [zox]
theorem zE1:zmL []=0:=by rw [zmL]
theorem zDw:zju []=0:=by rw [zju]
theorem zG7:zhe []=0:=by rw [zhe]
section
variable (g:List Term→Int→Int→Bool×Int) (a:List Term) (limit d:Nat) (hl:limit≤1000) (hd:d≤100) (B:Nat) (hB:B≤1152921504606846976) (P:List Term→Prop)
include hl hd hB
theorem w14 (x:Atom) (i k:Int) (hlen:x.Args.length≤roomLen) (hg:∀ y∈x.Args,∀ l:Nat,l≤1000→∃ w:Nat,g y l d=(true,(w:Int))∧w≤B∧(w≤l→P y∧zhe y≤w)):
  ∀ (fuel j n:Nat),x.Args.length<j+fuel→j≤x.Args.length→n≤2305843009213693952→∃ n':Nat,zn0 g fuel a limit (d+1:Nat) n i k j x=(true,(a,(limit:Int),((d+1:Nat):Int),(n':Int),i,k,x))∧n≤n'∧n'≤max n (limit+B)∧(n'≤limit→(∀ y∈x.Args.drop j,P y)∧n+zox (x.Args.drop j)≤n')
 | 0,j,n,h1,h2,h3=>by omega
 | fuel+1,j,n,h1,h2,h3=>by
  show ∃ n':Nat,(zn7 g a limit (d+1:Nat) n i k j x).ev (fun x y=>zn0 g fuel x.1 x.2.1 x.2.2.1 x.2.2.2.1 x.2.2.2.2.1 x.2.2.2.2.2.1 x.2.2.2.2.2.2.2.1 y.1) (fun r=>(true,r)) (false,default)=_∧_
  unfold zn7
  have hml:roomLen=140737488351232:=rfl
  by_cases hj:j<x.Args.length
  ·by_cases hn:n≤limit
   ·have e1:IntKind.i64.wrap ((limit:Int) - (n:Int))=((limit - n:Nat):Int):=by rw [zcq (by omega) (by omega)]; omega
    obtain ⟨w,hw,hwB,hwP⟩:=hg _ (zc6 hj) (limit - n) (by omega)
    have ed:IntKind.i64.wrap (((d+1:Nat):Int) - 1)=(d:Int):=by rw [zcq (by omega) (by omega)]; omega
    simp only [Wy.ev_i,Wy.ev_k,Wy.ev_h,Wy.ev_bn,Wy.ev_d,tT,hj,zmU,hn,e1,ed,hw]
    have e3:IntKind.i64.wrap ((n:Int)+(w:Int))=((n+w:Nat):Int):=by rw [zcq (by omega) (by omega)]; omega
    rw [e3,zcs (by omega)]
    obtain ⟨n',h4,h5,h6,h7⟩:=w14 x i k hlen hg fuel (j+1) (n+w) (by omega) (by omega) (by omega)
    refine ⟨n',h4,by omega,by omega,fun hn'=> ?_⟩
    obtain ⟨h8,h9⟩:=h7 hn'
    obtain ⟨p1,p2⟩:=hwP (by omega)
    rw [zjN hj,zE2]
    refine ⟨fun y hy=> ?_,by omega⟩
    rcases List.mem_cons.1 hy with rfl | hy
    ·exact p1
    ·exact h8 y hy
   ·simp only [Wy.ev_i,Wy.ev_k,Wy.ev_h,Wy.ev_bn,Wy.ev_d,tT,hj,zmU,hn]
    exact ⟨n,rfl,Nat.le_refl _,by omega,fun h=>absurd h hn⟩
  ·simp only [Wy.ev_i,Wy.ev_k,Wy.ev_h,Wy.ev_bn,Wy.ev_d,tT,hj]
   exact ⟨n,rfl,Nat.le_refl _,by omega,fun _=>by rw [zjR hj,zF0]; exact ⟨fun y hy=>(by cases hy),Nat.le_refl _⟩⟩
theorem w18 (x:Atom) (i k:Int) (hlen:x.Items.length≤roomLen) (hg:∀ y∈x.Items,y.Value.Text.size≤roomLen∧∀ l:Nat,l≤1000→∃ w:Nat,g y.Ann l d=(true,(w:Int))∧w≤B∧(w≤l→P y.Ann∧zhe y.Ann≤w)):
  ∀ (fuel j n:Nat),x.Items.length<j+fuel→j≤x.Items.length→n≤2305843009213693952→∃ n':Nat,zob g fuel a limit (d+1:Nat) n i k j x=(true,(a,(limit:Int),((d+1:Nat):Int),(n':Int),i,k))∧n≤n'∧n'≤max n (limit+roomLen+B)∧(n'≤limit→(∀ y∈x.Items.drop j,y.Value.Text.size≤1000∧P y.Ann)∧n+zmL (x.Items.drop j)≤n')
 | 0,j,n,h1,h2,h3=>by omega
 | fuel+1,j,n,h1,h2,h3=>by
  show ∃ n':Nat,(zoj g a limit (d+1:Nat) n i k j x).ev (fun x y=>zob g fuel x.1 x.2.1 x.2.2.1 x.2.2.2.1 x.2.2.2.2.1 x.2.2.2.2.2.1 x.2.2.2.2.2.2.2.1 y.1) (fun r=>(true,r)) (false,default)=_∧_
  unfold zoj
  have hml:roomLen=140737488351232:=rfl
  by_cases hj:j<x.Items.length
  ·by_cases hn:n≤limit
   ·have e1:IntKind.i64.wrap ((limit:Int) - (n:Int))=((limit - n:Nat):Int):=by rw [zcq (by omega) (by omega)]; omega
    obtain ⟨ht,hgy⟩:=hg _ (zc6 hj)
    obtain ⟨w,hw,hwB,hwP⟩:=hgy (limit - n) (by omega)
    have ed:IntKind.i64.wrap (((d+1:Nat):Int) - 1)=(d:Int):=by rw [zcq (by omega) (by omega)]; omega
    simp only [Wy.ev_i,Wy.ev_k,Wy.ev_h,Wy.ev_bn,Wy.ev_d,tT,hj,zmU,hn,e1,ed,hw]
    generalize hsz:(x.Items.getD j default).Value.Text.size=sz at *
    have e3:IntKind.i64.wrap (IntKind.i64.wrap ((n:Int)+(sz:Int))+(w:Int))=((n+sz+w:Nat):Int):=by rw [zcq (z:=(n:Int)+(sz:Int)) (by omega) (by omega),zcq (by omega) (by omega)]; omega
    rw [e3,zcs (by omega)]
    obtain ⟨n',h4,h5,h6,h7⟩:=w18 x i k hlen hg fuel (j+1) (n+sz+w) (by omega) (by omega) (by omega)
    refine ⟨n',h4,by omega,by omega,fun hn'=> ?_⟩
    obtain ⟨h8,h9⟩:=h7 hn'
    obtain ⟨p1,p2⟩:=hwP (by omega)
    rw [zjN hj,zEj]
    refine ⟨fun y hy=> ?_,by omega⟩
    rcases List.mem_cons.1 hy with rfl | hy
    ·exact ⟨by omega,p1⟩
    ·exact h8 y hy
   ·simp only [Wy.ev_i,Wy.ev_k,Wy.ev_h,Wy.ev_bn,Wy.ev_d,tT,hj,zmU,hn]
    exact ⟨n,rfl,Nat.le_refl _,by omega,fun h=>absurd h hn⟩
  ·simp only [Wy.ev_i,Wy.ev_k,Wy.ev_h,Wy.ev_bn,Wy.ev_d,tT,hj]
   exact ⟨n,rfl,Nat.le_refl _,by omega,fun _=>by rw [zjR hj,zE1]; exact ⟨fun y hy=>(by cases hy),Nat.le_refl _⟩⟩
theorem w9 (i:Nat) (hi:i<a.length) (hla:(a.getD i default).Factors.length≤roomLen) (hg:∀ f∈(a.getD i default).Factors,f.Atom.Args.length≤roomLen∧f.Atom.Items.length≤roomLen∧f.Atom.Bound.Text.size≤roomLen∧(∀ y∈f.Atom.Args,∀ l:Nat,l≤1000→∃ w:Nat,g y l d=(true,(w:Int))∧w≤B∧(w≤l→P y∧zhe y≤w))∧
   ∀ y∈f.Atom.Items,y.Value.Text.size≤roomLen∧∀ l:Nat,l≤1000→∃ w:Nat,g y.Ann l d=(true,(w:Int))∧w≤B∧(w≤l→P y.Ann∧zhe y.Ann≤w)):
  ∀ (fuel k n:Nat),(a.getD i default).Factors.length<k+fuel→k≤(a.getD i default).Factors.length→n≤2305843009213693952→∃ n':Nat,zpe g fuel a limit (d+1:Nat) n i k=(true,(a,(limit:Int),((d+1:Nat):Int),(n':Int),(i:Int)))∧n≤n'∧n'≤max n (limit+4*roomLen+B)∧
   (n'≤limit→(∀ f∈(a.getD i default).Factors.drop k,(f.Atom.Args.length≤1000∧f.Atom.Items.length≤1000∧f.Atom.Bound.Text.size≤1000)∧(∀ y∈f.Atom.Args,P y)∧∀ y∈f.Atom.Items,y.Value.Text.size≤1000∧P y.Ann)∧n+zju ((a.getD i default).Factors.drop k)≤n')
 | 0,k,n,h1,h2,h3=>by omega
 | fuel+1,k,n,h1,h2,h3=>by
  show ∃ n':Nat,(zph g a limit (d+1:Nat) n i k).ev (fun x y=>zpe g fuel x.1 x.2.1 x.2.2.1 x.2.2.2.1 x.2.2.2.2.1 x.2.2.2.2.2.1) (fun r=>(true,r)) (false,default)=_∧_
  unfold zph
  have hml:roomLen=140737488351232:=rfl
  by_cases hk:k<(a.getD i default).Factors.length
  ·by_cases hn:n≤limit
   ·simp only [Wy.ev_i,Wy.ev_k,Wy.ev_h,Wy.ev_bn,Wy.ev_d,tT,hi,hk,zmU,hn,Atom.eta]
    obtain ⟨ha1,ha2,ha3,hgA,hgI⟩:=hg _ (zc6 hk)
    generalize hf:((a.getD i default).Factors.getD k default)=f at *
    have e0:IntKind.i64.wrap (IntKind.i64.wrap (IntKind.i64.wrap ((n:Int)+(f.Atom.Items.length:Int))+(f.Atom.Args.length:Int))+(f.Atom.Bound.Text.size:Int))=((n+f.Atom.Items.length+f.Atom.Args.length+f.Atom.Bound.Text.size:Nat):Int):=by
     rw [zcq (z:=(n:Int)+(f.Atom.Items.length:Int)) (by omega) (by omega),zcq (z:=(n:Int)+(f.Atom.Items.length:Int)+(f.Atom.Args.length:Int)) (by omega) (by omega),zcq (by omega) (by omega)]; omega
    rw [e0]
    obtain ⟨n1,q1,q2,q3,q4⟩:=w14 g a limit d hl hd B hB P f.Atom i k ha1 hgA (a.length+limit+(d+1)+((n+f.Atom.Items.length+f.Atom.Args.length+f.Atom.Bound.Text.size:Nat):Int).toNat +i+k+Int.toNat 0+f.Atom.Args.length+f.Atom.Items.length+1000) 0 (n+f.Atom.Items.length+f.Atom.Args.length+f.Atom.Bound.Text.size) (by omega) (by omega) (by omega)
    rw [show ((0:Nat):Int)=(0:Int) from rfl] at q1
    rw [q1]
    simp only [cond_true,Atom.eta,Int.toNat_natCast]
    obtain ⟨n2,r1,r2,r3,r4⟩:=w18 g a limit d hl hd B hB P f.Atom i k ha2 hgI (a.length+limit+(d+1)+n1+i+k+Int.toNat 0+f.Atom.Args.length+f.Atom.Items.length+1000) 0 n1 (by omega) (by omega) (by omega)
    rw [show ((0:Nat):Int)=(0:Int) from rfl] at r1
    rw [r1]
    simp only [cond_true]
    rw [zcs (by omega)]
    obtain ⟨n',h4,h5,h6,h7⟩:=w9 i hi hla hg fuel (k+1) n2 (by omega) (by omega) (by omega)
    refine ⟨n',h4,by omega,by omega,fun hn'=> ?_⟩
    obtain ⟨h8,h9⟩:=h7 hn'
    obtain ⟨q5,q6⟩:=q4 (by omega)
    obtain ⟨r5,r6⟩:=r4 (by omega)
    rw [List.drop_zero] at q5 q6 r5 r6
    rw [zjN hk,zCR,hf,zGZ]
    refine ⟨fun y hy=> ?_,by omega⟩
    rcases List.mem_cons.1 hy with rfl | hy
    ·exact ⟨⟨by omega,by omega,by omega⟩,q5,r5⟩
    ·exact h8 y hy
   ·simp only [Wy.ev_i,Wy.ev_k,Wy.ev_h,Wy.ev_bn,Wy.ev_d,tT,hi,hk,zmU,hn]
    exact ⟨n,rfl,Nat.le_refl _,by omega,fun h=>absurd h hn⟩
  ·simp only [Wy.ev_i,Wy.ev_k,Wy.ev_h,Wy.ev_bn,Wy.ev_d,tT,hi,hk]
   exact ⟨n,rfl,Nat.le_refl _,by omega,fun _=>by rw [zjR hk,zDw]; exact ⟨fun y hy=>(by cases hy),Nat.le_refl _⟩⟩
theorem w5 (hla:∀ t∈a,t.Factors.length≤roomLen) (hg:∀ t∈a,∀ f∈t.Factors,f.Atom.Args.length≤roomLen∧f.Atom.Items.length≤roomLen∧f.Atom.Bound.Text.size≤roomLen∧(∀ y∈f.Atom.Args,∀ l:Nat,l≤1000→∃ w:Nat,g y l d=(true,(w:Int))∧w≤B∧(w≤l→P y∧zhe y≤w))∧
   ∀ y∈f.Atom.Items,y.Value.Text.size≤roomLen∧∀ l:Nat,l≤1000→∃ w:Nat,g y.Ann l d=(true,(w:Int))∧w≤B∧(w≤l→P y.Ann∧zhe y.Ann≤w)) (hlen:a.length≤roomLen):
  ∀ (fuel i n:Nat),a.length<i+fuel→i≤a.length→n≤2305843009213693952→∃ n':Nat,zo5 g fuel a limit (d+1:Nat) n i=(true,(n':Int))∧n≤n'∧n'≤max n (limit+6*roomLen+B)∧
   (n'≤limit→(n+(a.length - i)≤n'∧n+zhe (a.drop i)≤n')∧∀ t∈a.drop i,t.Factors.length≤1000∧∀ f∈t.Factors,(f.Atom.Args.length≤1000∧f.Atom.Items.length≤1000∧f.Atom.Bound.Text.size≤1000)∧(∀ y∈f.Atom.Args,P y)∧∀ y∈f.Atom.Items,y.Value.Text.size≤1000∧P y.Ann)
 | 0,i,n,h1,h2,h3=>by omega
 | fuel+1,i,n,h1,h2,h3=>by
  show ∃ n':Nat,(zo8 g a limit (d+1:Nat) n i).ev (fun x y=>zo5 g fuel x.1 x.2.1 x.2.2.1 x.2.2.2.1 x.2.2.2.2.1) (fun r=>(true,r)) (false,default)=_∧_
  unfold zo8
  have hml:roomLen=140737488351232:=rfl
  by_cases hi:i<a.length
  ·by_cases hn:n≤limit
   ·simp only [Wy.ev_i,Wy.ev_k,Wy.ev_h,Wy.ev_bn,Wy.ev_d,tT,hi,zmU,hn]
    have hla':=hla _ (zc6 hi)
    have e0:IntKind.i64.wrap (IntKind.i64.wrap ((n:Int)+1)+((a.getD i default).Factors.length:Int))=((n+1+(a.getD i default).Factors.length:Nat):Int):=by
     rw [zcs (by omega),zcq (by omega) (by omega)]; omega
    rw [e0]
    obtain ⟨n1,q1,q2,q3,q4⟩:=w9 g a limit d hl hd B hB P i hi hla' (hg _ (zc6 hi)) (a.length+limit+(d+1)+((n+1+(a.getD i default).Factors.length:Nat):Int).toNat +i+Int.toNat 0+1000) 0 (n+1+(a.getD i default).Factors.length) (by omega) (by omega) (by omega)
    rw [show ((0:Nat):Int)=(0:Int) from rfl] at q1
    rw [q1]
    simp only [cond_true]
    rw [zcs (by omega)]
    obtain ⟨n',h4,h5,h6,h7⟩:=w5 hla hg hlen fuel (i+1) n1 (by omega) (by omega) (by omega)
    refine ⟨n',h4,by omega,by omega,fun hn'=> ?_⟩
    obtain ⟨⟨h8,h10⟩,h9⟩:=h7 hn'
    obtain ⟨q5,q6⟩:=q4 (by omega)
    rw [List.drop_zero] at q5 q6
    rw [zjN hi,zGb]
    refine ⟨⟨by omega,by omega⟩,fun y hy=> ?_⟩
    rcases List.mem_cons.1 hy with rfl | hy
    ·exact ⟨by omega,q5⟩
    ·exact h9 y hy
   ·simp only [Wy.ev_i,Wy.ev_k,Wy.ev_h,Wy.ev_bn,Wy.ev_d,tT,hi,zmU,hn]
    exact ⟨n,rfl,Nat.le_refl _,by omega,fun h=>absurd h hn⟩
  ·simp only [Wy.ev_i,Wy.ev_k,Wy.ev_h,Wy.ev_bn,Wy.ev_d,tT,hi]
   exact ⟨n,rfl,Nat.le_refl _,by omega,fun _=>by rw [zjR hi,zG7]; exact ⟨⟨by omega,Nat.le_refl _⟩,fun y hy=>(by cases hy)⟩⟩
end
theorem zDL:∀ (d N:Nat),d<N→d≤12→∀ (l:Nat),l≤1000→∀ a,zk2 a→a.length≤roomLen→∃ w:Nat,zjH N a l d=(true,(w:Int))∧w≤(d+1)*4503599627370496∧(w≤l→zjL d a∧zhe a≤w)
 | _,0,h,_,_,_,_,_,_=>by omega
 | 0,N+1,_,_,l,hl,a,hw,hlen=>by
  rw [zuB]
  unfold zk7 zmI
  refine ⟨l+1, ?_,by omega,fun h=>by omega⟩
  simp only [Wy.fin_i,Wy.fin_k]
  rw [zcs (by omega)]; rfl
 | d+1,N+1,hN,hd,l,hl,a,hw,hlen=>by
  rw [zuB]
  unfold zk7 zmI
  have hml:roomLen=140737488351232:=rfl
  have ih:=fun y (h1:zk2 y) (h2:y.length≤roomLen) l hl=>zDL d N (by omega) (by omega) l hl y h1 h2
  have e0:(((d+1:Nat):Int)==(0:Int))=false:=by
   rw [beq_eq_false_iff_ne]; omega
  obtain ⟨n',h1,h2,h3,h4⟩:=w5 (zjH N) a l d hl (by omega) ((d+1)*4503599627370496) (by omega) (zjL d) (fun t ht=>(zCo (zz9 hw t ht)).2.2) (fun t ht f hf=>by
   have hx:=zHt (zE7 (zzq (zCo (zz9 hw t ht)).2.1 f hf)).1
   refine ⟨hx.1.2,hx.2.1.2,hx.2.2.1.2.2,fun y hy l hl=> ?_,fun y hy=> ?_⟩
   ·have:=zCx hx.1.1 y hy
    exact ih y this.1 this.2 l hl
   ·have:=zBm hx.2.1.1 y hy
    exact ⟨this.1.2.2,fun l hl=>ih y.Ann this.2.1 this.2.2 l hl⟩) hlen (a.length+l+(d+1)+Int.toNat 0+Int.toNat 0+1000) 0 0 (by omega) (by omega) (by omega)
  rw [show ((0:Nat):Int)=(0:Int) from rfl] at h1
  refine ⟨n', ?_,by omega,fun hn=> ?_⟩
  ·simp only [Wy.fin_i,Wy.fin_k,Wy.fin_bn,e0,cond_false,Int.toNat_natCast,h1,cond_true]
  ·obtain ⟨⟨h5,h12⟩,h6⟩:=h4 hn
   rw [List.drop_zero] at h12
   refine ⟨⟨by omega,fun t ht=> ?_⟩,by omega⟩
   obtain ⟨h7,h8⟩:=h6 t (by simpa using ht)
   refine ⟨by omega,fun f hf=> ?_⟩
   obtain ⟨h9,h10,h11⟩:=h8 f hf
   exact ⟨⟨by omega,by omega,by omega⟩,h10,fun w hw=>⟨by have:=(h11 w hw).1; omega,(h11 w hw).2⟩⟩
theorem zFR (limit:Nat) (hl:limit≤1000) (l:List (List Term)) (hll:l.length≤1000) (hw:∀ a∈l,zk2 a∧a.length≤roomLen):∀ (n i:Nat),l.length<i+n→i≤l.length→∃ r,zvi n limit l i=(true,r)∧((r=.inl false)∨(r=.inr ()∧∀ a∈l.drop i,zjL 12 a∧zhe a≤limit))
 | 0,i,h1,h2=>by omega
 | n+1,i,h1,h2=>by
  show ∃ r,(zvF limit l i).ev (fun x y=>zvi n x.1 x.2.1 x.2.2.1) (fun r=>(true,r)) (false,.inl default)=(true,r)∧_
  unfold zvF
  by_cases hi:i<l.length
  ·obtain ⟨w,q1,q2,q3⟩:=zDL 12 1000 (by omega) (by omega) limit hl _ (hw _ (zc6 hi)).1 (hw _ (zc6 hi)).2
   have q1':zvN (l.getD i default) (limit:Int) 12=(true,(w:Int)):=q1
   simp only [Wy.ev_i,Wy.ev_k,Wy.ev_h,Wy.ev_bn,Wy.ev_d,tT,hi,q1',zzQ]
   by_cases hg:limit<w
   ·simp only [hg,decide_true,cond_true]
    exact ⟨_,rfl,.inl rfl⟩
   ·simp only [hg,decide_false,cond_false]
    rw [zcs (by omega)]
    obtain ⟨r,h3,h4⟩:=zFR limit hl l hll hw n (i+1) (by omega) (by omega)
    refine ⟨r,h3, ?_⟩
    rcases h4 with h4 | ⟨h4,h5⟩
    ·exact .inl h4
    ·refine .inr ⟨h4,fun a ha=> ?_⟩
     rw [zjN hi] at ha
     rcases List.mem_cons.1 ha with rfl | ha
     ·exact ⟨(q3 (by omega)).1,by have:=(q3 (by omega)).2; omega⟩
     ·exact h5 a ha
  ·simp only [Wy.ev_i,Wy.ev_k,Wy.ev_h,Wy.ev_bn,Wy.ev_d,tT,hi]
   exact ⟨_,rfl,.inr ⟨rfl,fun a ha=>by rw [zjR hi] at ha; cases ha⟩⟩
theorem zKh (limit:Nat) (hl:limit≤1000) (l:List (List Term)) (hll:l.length≤1000) (hw:∀ a∈l,zk2 a∧a.length≤roomLen):∃ b,zqX limit l=(true,b)∧(b=true→∀ a∈l,zjL 12 a∧zhe a≤limit):=by
 unfold zqX zxl
 obtain ⟨r,h1,h2⟩:=zFR limit hl l hll hw (limit+l.length+Int.toNat 0+1000) 0 (by omega) (by omega)
 rw [show ((0:Nat):Int)=(0:Int) from rfl] at h1
 rw [Wy.fin_bn]
 simp only [Int.toNat_natCast,h1,cond_true]
 rcases h2 with rfl | ⟨rfl,h2⟩
 ·exact ⟨false,rfl,fun h=>by cases h⟩
 ·exact ⟨true,rfl,fun _ a ha=>h2 a (by simpa using ha)⟩
theorem few7 (c:List Column) (rows:List Row) (hc:c.length≤20):∀ (n k:Nat),c.length<k+n→k≤c.length→∃ r,zz1 n (12:Int) (8:Int) [⟨c,rows⟩] (0:Int) k=(true,r)∧(r=.inl false∨r=.inr (12,8,[⟨c,rows⟩],0))
 | 0,k,h,h2=>by omega
 | n+1,k,h,h2=>by
  show ∃ r,(zvm (12:Int) (8:Int) [⟨c,rows⟩] (0:Int) k).ev (zO zrP (.inl default) n) (fun r=>(true,r)) (false,.inl default)=(true,r)∧_
  unfold zvm
  have i0:(decide ((0:Int)≤(0:Int))&&decide ((0:Int)<Int.ofNat [(⟨c,rows⟩:Relation)].length))=true:=rfl
  have g0:[(⟨c,rows⟩:Relation)].getD (Int.toNat (0:Int)) default=⟨c,rows⟩:=rfl
  by_cases hk:k<c.length
  ·simp only [Wy.ev_i,Wy.ev_k,Wy.ev_h,Wy.ev_d,i0,g0,cond_true,tT,hk]
   generalize decide (_>(100:Int))=q
   cases q with
   | true=>exact ⟨_,rfl,.inl rfl⟩
   | false=>
    rw [cond_false,zcs (by omega)]
    exact few7 c rows hc n (k+1) (by omega) (by omega)
  ·simp only [Wy.ev_i,Wy.ev_k,Wy.ev_h,Wy.ev_d,i0,g0,cond_true,tT,hk]
   exact ⟨_,rfl,.inr rfl⟩
theorem zJa (c:List Column) (rows:List Row) (hr:rows.length≤12) (hw:∀ x∈rows,wf38 x):∀ (n k:Nat),rows.length<k+n→k≤rows.length→∃ r,zzt n (12:Int) (8:Int) [⟨c,rows⟩] (0:Int) k=(true,r)∧(r=.inl false∨r=.inr (12,8,[⟨c,rows⟩],0))
 | 0,k,h,h2=>by omega
 | n+1,k,h,h2=>by
  show ∃ r,(zt7 (12:Int) (8:Int) [⟨c,rows⟩] (0:Int) k).ev (zO zp4 (.inl default) n) (fun r=>(true,r)) (false,.inl default)=(true,r)∧_
  unfold zt7
  have i0:(decide ((0:Int)≤(0:Int))&&decide ((0:Int)<Int.ofNat [(⟨c,rows⟩:Relation)].length))=true:=rfl
  have g0:[(⟨c,rows⟩:Relation)].getD (Int.toNat (0:Int)) default=⟨c,rows⟩:=rfl
  by_cases hk:k<rows.length
  ·have hx:=hw _ (zc6 hk)
   obtain ⟨b,b1,b2⟩:=zIK (rows.getD k default).Values 20 hx.1.2
   obtain ⟨q,q1,q2⟩:=zKh 8 (by omega) [(rows.getD k default).Ann] (by simp) (fun y hy=>by
    rw [List.mem_singleton] at hy; subst hy; exact hx.2)
   replace b1:zm6 (rows.getD k default).Values (20:Int)=(true,b):=b1
   replace q1:zqX (8:Int) [(rows.getD k default).Ann]=(true,q):=q1
   simp only [Wy.ev_i,Wy.ev_k,Wy.ev_h,Wy.ev_bn,Wy.ev_d,i0,g0,cond_true,tT,hk,b1,q1]
   cases b with
   | false=>exact ⟨_,rfl,.inl rfl⟩
   | true=>
    cases q with
    | false=>exact ⟨_,rfl,.inl rfl⟩
    | true=>
     rw [zcs (by omega)]
     exact zJa c rows hr hw n (k+1) (by omega) (by omega)
  ·simp only [Wy.ev_i,Wy.ev_k,Wy.ev_h,Wy.ev_d,i0,g0,cond_true,tT,hk]
   exact ⟨_,rfl,.inr rfl⟩
theorem zKg (t:Table) (ht:wf25 t):∃ b,ztf t=(true,b)∧(b=true→t.Rows.length≤12∧t.Columns.length≤20):=by
 have key:∃ b,ztl (12:Int) (8:Int) [⟨t.Columns,t.Rows⟩]=(true,b)∧(b=true→t.Rows.length≤12∧t.Columns.length≤20):=by
  unfold ztl zwT
  have l2:∃ r,∀ n,zvD (n+2) (12:Int) (8:Int) [⟨t.Columns,t.Rows⟩] (0:Int)=(true,r)∧(r=.inl false∨(r=.inr ()∧t.Rows.length≤12∧t.Columns.length≤20)):=by
   have step:∀ n,zvD (n+2) (12:Int) (8:Int) [⟨t.Columns,t.Rows⟩] (0:Int)=(zjV (12:Int) (8:Int) [⟨t.Columns,t.Rows⟩] (0:Int)).ev (zO zrU (.inl default) (n+1)) (fun r=>(true,r)) (false,.inl default):=fun n=>rfl
   have i0:(decide ((0:Int)≤(0:Int))&&decide ((0:Int)<Int.ofNat [(⟨t.Columns,t.Rows⟩:Relation)].length))=true:=rfl
   have i00:decide ((0:Int)≤(0:Int))=true:=rfl
   have i1:decide ((0:Int)<Int.ofNat [(⟨t.Columns,t.Rows⟩:Relation)].length)=true:=rfl
   have g0:[(⟨t.Columns,t.Rows⟩:Relation)].getD (Int.toNat (0:Int)) default=⟨t.Columns,t.Rows⟩:=rfl
   have e1:decide (Int.ofNat t.Rows.length>(12:Int))=decide (t.Rows.length>12):=zzQ _ 12
   have e2:decide (Int.ofNat t.Columns.length>(20:Int))=decide (t.Columns.length>20):=zzQ _ 20
   by_cases h1:t.Rows.length>12
   ·refine ⟨.inl false,fun n=>⟨?_,.inl rfl⟩⟩
    rw [step]
    unfold zjV
    simp only [Wy.ev_i,Wy.ev_k,i00,i1,Bool.and_self,g0,e1,decide_eq_true h1,cond_true]
   ·by_cases h2:t.Columns.length>20
    ·refine ⟨.inl false,fun n=>⟨?_,.inl rfl⟩⟩
     rw [step]
     unfold zjV
     simp only [Wy.ev_i,Wy.ev_k,i00,i1,Bool.and_self,g0,e1,e2,decide_eq_false h1,decide_eq_true h2,cond_true,cond_false]
    ·obtain ⟨r7,a1,a2⟩:=few7 t.Columns t.Rows (by omega) ((12:Int).toNat +(8:Int).toNat +[(⟨t.Columns,t.Rows⟩:Relation)].length+(0:Int).toNat +Int.toNat (0:Int)+(1000:Nat)) 0 (by simp; omega) (by omega)
     obtain ⟨r12,b1,b2⟩:=zJa t.Columns t.Rows (by omega) ht.2.2.2.1 ((12:Int).toNat +(8:Int).toNat +[(⟨t.Columns,t.Rows⟩:Relation)].length+(0:Int).toNat +Int.toNat (0:Int)+(1000:Nat)) 0 (by simp; omega) (by omega)
     rw [show ((0:Nat):Int)=(0:Int) from rfl] at a1 b1
     rcases a2 with rfl | rfl
     ·refine ⟨.inl false,fun n=>⟨?_,.inl rfl⟩⟩
      rw [step]
      unfold zjV
      simp only [Wy.ev_i,Wy.ev_k,Wy.ev_bn,i00,i1,Bool.and_self,g0,e1,e2,decide_eq_false h1,decide_eq_false h2,cond_true,cond_false,a1,isL,getL]
     ·rcases b2 with rfl | rfl
      ·refine ⟨.inl false,fun n=>⟨?_,.inl rfl⟩⟩
       rw [step]
       unfold zjV
       simp only [Wy.ev_i,Wy.ev_k,Wy.ev_bn,i00,i1,Bool.and_self,g0,e1,e2,decide_eq_false h1,decide_eq_false h2,cond_true,cond_false,a1,b1,isL,getL,getR]
      ·refine ⟨.inr (),fun n=>⟨?_,.inr ⟨rfl,by omega,by omega⟩⟩⟩
       rw [step]
       unfold zjV
       simp only [Wy.ev_i,Wy.ev_k,Wy.ev_h,Wy.ev_bn,i00,i1,Bool.and_self,g0,e1,e2,decide_eq_false h1,decide_eq_false h2,cond_true,cond_false,a1,b1,isL,getL,getR]
       rfl
  obtain ⟨r,hr⟩:=l2
  obtain ⟨h1,h2⟩:=hr ((12:Int).toNat +(8:Int).toNat +[(⟨t.Columns,t.Rows⟩:Relation)].length+Int.toNat (0:Int)+(998:Nat))
  rw [Wy.fin_bn,show (12:Int).toNat +(8:Int).toNat +[(⟨t.Columns,t.Rows⟩:Relation)].length+Int.toNat (0:Int)+(1000:Nat)=(12:Int).toNat +(8:Int).toNat +[(⟨t.Columns,t.Rows⟩:Relation)].length+Int.toNat (0:Int)+(998:Nat)+2 from rfl,h1]
  rcases h2 with rfl | ⟨rfl,h2⟩
  ·exact ⟨false,rfl,fun h=>by cases h⟩
  ·exact ⟨true,rfl,fun _=>h2⟩
 obtain ⟨b,b1,b2⟩:=key
 refine ⟨b, ?_,b2⟩
 unfold ztf zxd
 rw [Wy.fin_bn,b1]; rfl
theorem zDu {s:List Value} (h:AscV s) {i j:Nat} (hij:i≤j) (hj:j<s.length):cmpV (s.getD i default) (s.getD j default)≤0:=by
 by_cases he:i=j
 ·subst he; rw [(ztp _ _).2 rfl]; omega
 ·have:=List.pairwise_iff_getElem.1 h i j (by omega) hj (by omega)
  have e1:s.getD i default=s[i]:=by rw [List.getD_eq_getElem?_getD,List.getElem?_eq_getElem (by omega)]; rfl
  have e2:s.getD j default=s[j]:=by rw [List.getD_eq_getElem?_getD,List.getElem?_eq_getElem hj]; rfl
  rw [e1,e2]; exact this
theorem zGN {s:List Value} (h:AscV s) (h0:0<s.length):1≤zx0 s∧zx0 s≤s.length:=by
 obtain ⟨h1,h2⟩:=adjV s h
 refine ⟨?_,ze1 h1 fun x hx=>(h2 x).1 hx⟩
 cases s with
 | nil=>simp at h0
 | cons x r=>show 1≤(x::zlz _ x r).length; simp
theorem zyC (s:List Value) (n:Nat) {j k:Nat} (h:j<k):(bnds s n k).getD j default=bndP s n j:=by
 unfold bnds
 rw [List.getD_eq_getElem?_getD,List.getElem?_map,List.getElem?_range h]; rfl
theorem zJk (l:List Value) (T:Int) (hl:l.length≤1000000) (hv:∀ v∈l,zj5 T v=true):okC (colR l) l.length=true:=by
 unfold colR
 by_cases h0:l.length=0
 ·rw [if_pos h0,h0]; rfl
 ·rw [if_neg h0]
  have hs:=zwP l
  have ha:=zBT (l:=l) (by omega)
  have hk:∀ i,i<l.length→zj5 T ((srtV l).getD i default)=true:=fun i hi=>hv _ ((ztk l).mem_iff.1 (zc6 (by omega)))
  have hkk:∀ i,i<l.length→valV ((srtV l).getD i default)=true∧((srtV l).getD i default).Kind=T:=fun i hi=>by
   have:=hk i hi
   unfold zj5 at this
   simp only [Bool.and_eq_true,decide_eq_true_eq] at this
   exact this
  have hst:=zGN ha (by omega)
  have hin:∀ j,j<8→((j+1)*l.length+7) / 8 - 1<l.length:=fun j hj=>by
   have:=zFa (n:=l.length) (i:=j) (by omega) (by omega); omega
  have h0k:=hkk 0 (by omega)
  have hnk:=hkk (l.length - 1) (by omega)
  have b7:(bnds (srtV l) l.length 8).getD 7 default=(srtV l).getD (l.length - 1) default:=by
   rw [zyC _ _ (by omega)]
   unfold bndP
   congr 1
   omega
  have b0:cmpV ((srtV l).getD 0 default) ((bnds (srtV l) l.length 8).getD 0 default)≤0:=by
   rw [zyC _ _ (by omega)]
   exact zDu ha (Nat.zero_le _) (by rw [hs]; exact hin 0 (by omega))
  have ball:(bnds (srtV l) l.length 8).all (zj5 ((srtV l).getD 0 default).Kind)=true:=by
   rw [List.all_eq_true]
   intro b hb
   unfold bnds at hb
   obtain ⟨j,hj,rfl⟩:=List.mem_map.1 hb
   rw [h0k.2]
   exact hk _ (hin j (List.mem_range.1 hj))
  have bs:allN (srtB (bnds (srtV l) l.length 8)) (bnds (srtV l) l.length 8).length 0=true:=by
   rw [zxa]
   refine zB1.2 fun k _ hk8=> ?_
   unfold srtB
   by_cases hk0:k=0
   ·simp [hk0]
   ·rw [decide_eq_false hk0,Bool.false_or,decide_eq_true_eq,zyC _ _ (by omega),zyC _ _ (by omega)]
    refine zDu ha ?_ (by rw [hs]; exact hin k (by omega))
    have:(k - 1+1)*l.length≤(k+1)*l.length:=Nat.mul_le_mul (by omega) (Nat.le_refl _)
    omega
  unfold okC
  rw [if_neg (by omega)]
  simp only [Bool.and_eq_true,decide_eq_true_eq]
  exact ⟨by omega,by omega,h0k.1,hnk.1,by rw [h0k.2,hnk.2],zDu ha (by omega) (by omega),zxa _ _ _,b7,ball,b0,bs⟩
theorem zIw {t:Table} (h:okT t=true) {k:Nat} (hk:k<t.Columns.length):∀ v∈colV t.Rows k,zj5 (t.Columns.getD k default).Type_ v=true:=fun v hv=>by
 unfold colV at hv
 obtain ⟨r,hr,rfl⟩:=List.mem_map.1 hv
 unfold okT at h
 simp only [Bool.and_eq_true,List.all_eq_true] at h
 have:=h.2 r hr
 unfold fitR at this
 simp only [Bool.and_eq_true,decide_eq_true_eq] at this
 exact zB1.1 this.2 k (by omega) (by omega)
theorem zJ7 (t:Table) (hr:t.Rows.length≤1000):okS (gatR t)=true:=by
 unfold gatR
 cases h:okT t with
 | false=>rfl
 | true=>
  rw [cond_true]
  unfold okS
  simp only [Bool.and_eq_true,decide_eq_true_eq,List.all_eq_true]
  refine ⟨by omega,by omega,by rw [zvj]; exact zEP h,fun c hc=> ?_⟩
  unfold zj6 at hc
  obtain ⟨k,hk,rfl⟩:=List.mem_map.1 hc
  have hcl:(colV t.Rows k).length=t.Rows.length:=by simp [colV]
  have:=zJk (colV t.Rows k) _ (by omega) (zIw h (List.mem_range.1 hk))
  rw [hcl] at this
  exact this
def colE:Scalar:=⟨1,0,zV,0,[]⟩
def valE (v:Value):Scalar:=⟨0,0,v,0,[]⟩
def cmpE (op:Int) (x y:Scalar):Scalar:=⟨2,0,zV,op,[x,y]⟩
theorem zHl (op:Int) (v:Value):zc9 op v=(true,cmpE op colE (valE v)):=rfl
theorem zH5 (op:Int) (v:Value):zku 32 (cmpE op colE (valE v))∧zku 32 (cmpE op (valE v) colE):=by
 have h1:zku 31 colE:=⟨by simp [colE],fun x hx=>by simp [colE] at hx⟩
 have h2:zku 31 (valE v):=⟨by simp [valE],fun x hx=>by simp [valE] at hx⟩
 refine ⟨⟨by simp [cmpE],fun x hx=> ?_⟩,⟨by simp [cmpE],fun x hx=> ?_⟩⟩
 all_goals
  simp only [cmpE,List.mem_cons,List.not_mem_nil,or_false] at hx
  rcases hx with rfl | rfl <;>assumption
theorem zJS {s:Stats} (h:okS s=true) (h0:0<s.Columns.length) {op:Int} (ho:5≤op∧op≤10) (v:Value):zcK s (cmpE op colE (valE v))=(true,znV s op 0 v):=by
 have hh:hasP s 0=true:=zvL.2 ⟨Int.le_refl _,h0⟩
 rw [zDm s (zH5 op v).1]
 unfold selP
 rw [h,cond_true]
 have e:estP s 32 (cmpE op colE (valE v))=cmpP s op colE (valE v):=by
  have:¬ op=13:=by omega
  have a:¬ op=11:=by omega
  have b:¬ op=12:=by omega
  have c:¬ (op<5∨op>10):=by omega
  show estP s (31+1) _=_
  unfold estP
  simp [cmpE,this,a,b,c]
 rw [e]
 have e2:cmpP s op colE (valE v)=znV s op 0 v:=by simp [cmpP,colE,valE,hh]
 rw [e2]
theorem zGI (N x:Nat):∀ m:Nat,((List.range m).filter fun j=>decide ((j+1)*N≤x)).length≤m∧((List.range m).filter fun j=>decide ((j+1)*N≤x)).length*N≤x∧(((List.range m).filter fun j=>decide ((j+1)*N≤x)).length<m→x<(((List.range m).filter fun j=>decide ((j+1)*N≤x)).length+1)*N)
 | 0=>by simp
 | m+1=>by
  obtain ⟨h1,h2,h3⟩:=zGI N x m
  rw [List.range_succ,List.filter_append,List.length_append]
  generalize ((List.range m).filter fun j=>decide ((j+1)*N≤x)).length=c at h1 h2 h3 ⊢
  by_cases hm:(m+1)*N≤x
  ·have hc:c=m:=by
    by_cases hcm:c<m
    ·have:=h3 hcm
     have:(c+1)*N≤(m+1)*N:=Nat.mul_le_mul (by omega) (Nat.le_refl _)
     omega
    ·omega
   subst hc
   rw [List.filter_cons_of_pos (by simpa using hm)]
   simp only [List.filter_nil,List.length_cons,List.length_nil]
   exact ⟨Nat.le_refl _,hm,fun h=>absurd h (by omega)⟩
  ·rw [List.filter_cons_of_neg (by simpa using hm)]
   simp only [List.filter_nil,List.length_nil,Nat.add_zero]
   refine ⟨by omega,h2,fun h=> ?_⟩
   by_cases hcm:c<m
   ·exact h3 hcm
   ·have:c=m:=by omega
    subst this; omega
theorem zBB {α:Type} (p q:α→Bool) (h:∀ x,p x=true→q x=true):∀ l:List α,(l.filter p).length≤(l.filter q).length
 | []=>Nat.le_refl _
 | x::r=>by
  have ih:=zBB p q h r
  by_cases hp:p x=true
  ·rw [List.filter_cons_of_pos hp,List.filter_cons_of_pos (h x hp)]
   simp only [List.length_cons]; omega
  ·rw [List.filter_cons_of_neg hp]
   by_cases hq:q x=true
   ·rw [List.filter_cons_of_pos hq]; simp only [List.length_cons]; omega
   ·rw [List.filter_cons_of_neg hq]; exact ih
theorem zHa (l:List Value) (v:Value) (hl:l.length≤1000000) (h0:0<l.length):
  ((bnds (srtV l) l.length 8).filter fun b=>decide (cmpV b v<0)).length=((List.range 8).filter fun j=>decide ((j+1)*l.length≤8*(l.filter fun x=>decide (cmpV x v<0)).length)).length:=by
 unfold bnds
 rw [List.filter_map,List.length_map]
 congr 1
 refine List.filter_congr fun j hj=> ?_
 have hj8:=List.mem_range.1 hj
 have hb:=zFa (n:=l.length) (i:=j) h0 (by omega)
 have hs:=zwP l
 have hbl:=zD9 v (srtV l) (zBT (by omega)) (((j+1)*l.length+7) / 8 - 1) (by omega)
 have hp:((srtV l).filter fun x=>decide (cmpV x v<0)).length=(l.filter fun x=>decide (cmpV x v<0)).length:=((ztk l).filter _).length_eq
 rw [hp] at hbl
 show decide (cmpV (bndP (srtV l) l.length j) v<0)=_
 unfold bndP
 generalize (j+1)*l.length=q at hb hbl ⊢
 by_cases hc:cmpV ((srtV l).getD ((q+7) / 8 - 1) default) v<0
 ·have:=hbl.1 hc
  rw [decide_eq_true hc,decide_eq_true (by omega)]
 ·have:¬ ((q+7) / 8 - 1<(l.filter fun x=>decide (cmpV x v<0)).length):=fun h=>hc (hbl.2 h)
  rw [decide_eq_false hc,decide_eq_false (by omega)]
theorem zvR (t:Table) (v w:Value) (s:Stats) (hw:wide t.Rows 0) (hl:t.Rows.length≤1000):∀ (n i m:Nat),t.Rows.length<i+n→i≤t.Rows.length→m≤i→
  zh3 n m i t v w s=(true,(((m+(((colV t.Rows 0).drop i).filter fun x=>decide (cmpV x v<0)).length:Nat):Int),v,w,s))
 | 0,i,m,h,h2,_=>by omega
 | n+1,i,m,h,h2,h3=>by
  have hcl:(colV t.Rows 0).length=t.Rows.length:=by simp [colV]
  show (zh0 m i t v w s).ev (zO zfT default n) (fun r=>(true,r)) (false,default)=_
  unfold zh0
  by_cases hi:i<t.Rows.length
  ·have hk:=hw _ (zc6 hi)
   have z0:Int.toNat (0:Int)=0:=rfl
   have hk0:(decide ((0:Int)≤(0:Int))&&decide ((0:Int)<((t.Rows.getD i default).Values.length:Int)))=true:=in0' hk
   simp only [Wy.ev_i,Wy.ev_k,Wy.ev_h,Wy.ev_bn,Wy.ev_d,z0,tT,hi,ref01_Compare_eq', ← zFL t.Rows 0 i hi,zcs (show i<4611686018427387904 by omega),zcs (show m<4611686018427387904 by omega)]
   rw [zjN (l:=colV t.Rows 0) (by omega),hk0,cond_true]
   by_cases hx:cmpV ((colV t.Rows 0).getD i default) v<0
   ·rw [decide_eq_true hx,cond_true,List.filter_cons_of_pos (by simpa using hx),List.length_cons]
    have ih:=zvR t v w s hw hl n (i+1) (m+1) (by omega) (by omega) (by omega)
    refine Eq.trans ih ?_
    congr 3
    omega
   ·rw [decide_eq_false hx,cond_false,List.filter_cons_of_neg (by simpa using hx)]
    exact zvR t v w s hw hl n (i+1) m (by omega) (by omega) (by omega)
  ·simp only [Wy.ev_i,Wy.ev_k,Wy.ev_h,Wy.ev_bn,Wy.ev_d,tT,hi,zjR (l:=colV t.Rows 0) (show ¬ i<(colV t.Rows 0).length by omega)]
   rfl
theorem zDF (t:Table) (v w:Value) (ht:wf25 t) (_:wf40 v) (_:wf40 w):zdP t v w=(true,true):=by
 obtain ⟨b,b1,b2⟩:=zKg t ht
 have l5:t.Rows.length≤12∧t.Columns.length≤20→t.Columns.length≠0→zl9 1 t v w=(true,true):=fun h hc0=>by
  show (zis t v w).ev (zO zgo default 0) (fun r=>(true,r)) (false,default)=_
  unfold zis
  rw [Wy.ev_bn,zH0 t (by omega) (by omega),cond_true,Wy.ev_i,Wy.ev_i]
  cases hT:okT t with
  | false=>
   have:(gatR t).Rows=0:=by unfold gatR; rw [hT]; rfl
   rw [this]; rfl
  | true=>
   have hg:gatR t=⟨t.ID,(t.Rows.length:Int),zj6 t t.Columns.length⟩:=by unfold gatR; rw [hT]; rfl
   have hgr:(gatR t).Rows=(t.Rows.length:Int):=by rw [hg]
   have e0:((t.Rows.length:Int)==(0:Int))=decide (t.Rows.length=0):=zDB _ 0
   rw [hgr,e0]
   by_cases hn:t.Rows.length=0
   ·rw [decide_eq_true hn]; rfl
   ·have e1:((t.Rows.length:Int) != Int.ofNat t.Rows.length)=false:=by rw [bne0]; simp
    rw [decide_eq_false hn,e1,cond_false,cond_false,Wy.ev_bn]
    have hok:=zJ7 t (by omega)
    have hcl:(colV t.Rows 0).length=t.Rows.length:=by simp [colV]
    have hlen:(gatR t).Columns.length=t.Columns.length:=by rw [hg]; exact zvj _ _
    have h0:0<(gatR t).Columns.length:=by omega
    have hcol:(gatR t).Columns.getD 0 default=colR (colV t.Rows 0):=by
     rw [hg]
     show (zj6 t t.Columns.length).getD 0 default=_
     unfold zj6
     rw [List.getD_eq_getElem?_getD,List.getElem?_map,List.getElem?_range (by omega)]; rfl
    have hlt:∀ v,ltP (gatR t) 0 v=((125*((List.range 8).filter fun j=>decide ((j+1)*t.Rows.length≤8*((colV t.Rows 0).filter fun x=>decide (cmpV x v<0)).length)).length:Nat):Int):=fun v=>by
     unfold ltP
     rw [hcol]
     have hb:=zHa (colV t.Rows 0) v (by omega) (by omega)
     unfold colR
     rw [if_neg (by omega),hb,hcl]
    have hsel:∀ v,zcK (gatR t) (cmpE 7 colE (valE v))=(true,ltP (gatR t) 0 v):=fun v=>by
     rw [zJS hok h0 (by omega)]; rfl
    have key:∀ n,t.Rows.length<n→zh3 n 0 0 t v w (gatR t)=(true,(((((colV t.Rows 0).filter fun x=>decide (cmpV x v<0)).length:Nat):Int),v,w,gatR t)):=fun n hn=>by
     have:=zvR t v w (gatR t) (zFQ hT (by omega)) (by omega) n 0 0 (by omega) (by omega) (by omega)
     rw [List.drop_zero,Nat.zero_add] at this
     exact this
    have l8:zmj 1 t v w (gatR t)=(true,true):=by
     show (ziw t v w (gatR t)).ev (zO zgv default 0) (fun r=>(true,r)) (false,default)=_
     unfold ziw
     rw [Wy.ev_bn,key _ (by omega),cond_true]
     simp only [Wy.ev_i,Wy.ev_k,Wy.ev_bn,zHl,Scalar.eta,hsel,ref01_Compare_eq',cond_true,hgr]
     have hmono:cmpV v w≤0→ltP (gatR t) 0 v≤ltP (gatR t) 0 w:=fun hvw=>by
      unfold ltP
      have:=zBB (fun b=>decide (cmpV b v<0)) (fun b=>decide (cmpV b w<0)) (fun x hx=>decide_eq_true (zHo (of_decide_eq_true hx) hvw)) ((gatR t).Columns.getD 0 default).Bounds
      omega
     obtain ⟨c1,c2,c3⟩:=zGI t.Rows.length (8*((colV t.Rows 0).filter fun x=>decide (cmpV x v<0)).length) 8
     have hle:=List.length_filter_le (fun x=>decide (cmpV x v<0)) (colV t.Rows 0)
     have hv:=hlt v
     generalize ((colV t.Rows 0).filter fun x=>decide (cmpV x v<0)).length=m at c1 c2 c3 hle hv ⊢
     generalize ((List.range 8).filter fun j=>decide ((j+1)*t.Rows.length≤8*m)).length=k at c1 c2 c3 hv
     rw [hcl] at hle
     generalize hN:t.Rows.length=N at *
     have k9:8*m<(k+1)*N:=by
      by_cases hk:k<8
      ·exact c3 hk
      ·have:k=8:=by omega
       subst this; omega
     have eA:ltP (gatR t) 0 v*(N:Int)=((125*(k*N):Nat):Int):=by
      rw [hv, ← Int.natCast_mul,Nat.mul_assoc]
     have eB:(ltP (gatR t) 0 v+125)*(N:Int)=((125*((k+1)*N):Nat):Int):=by
      rw [hv,show ((125*k:Nat):Int)+125=((125*(k+1):Nat):Int) by omega, ← Int.natCast_mul,Nat.mul_assoc]
     have hkN:(k+1)*N≤9*12:=Nat.mul_le_mul (by omega) (by omega)
     have hkN2:k*N≤8*12:=Nat.mul_le_mul (by omega) (by omega)
     have hr:=zu1 hok h0 v
     rw [eA,zcq (z:=((125*(k*N):Nat):Int)) (by omega) (by omega),zcq (z:=(1000:Int)*(m:Int)) (by omega) (by omega),zcq (z:=ltP (gatR t) 0 v+125) (by omega) (by omega),eB,zcq (z:=((125*((k+1)*N):Nat):Int)) (by omega) (by omega)]
     rw [decide_eq_true (show ((125*(k*N):Nat):Int)≤1000*(m:Int) by omega),decide_eq_true (show (1000:Int)*(m:Int)<((125*((k+1)*N):Nat):Int) by omega),cond_true,cond_true]
     by_cases hvw:cmpV v w>0
     ·rw [decide_eq_true hvw]; rfl
     ·rw [decide_eq_false hvw,decide_eq_true (hmono (by omega))]; rfl
    rw [l8]; rfl
 have l3:zmi 1 t v w=(true,true):=by
  show (ziD t v w).ev (zO zgp default 0) (fun r=>(true,r)) (false,default)=_
  unfold ziD
  simp only [Wy.ev_i,Wy.ev_k,Wy.ev_bn,b1,cond_true]
  generalize decide (Int.ofNat v.Text.size>(300:Int))=z1
  generalize decide (Int.ofNat w.Text.size>(300:Int))=z2
  have e0:(Int.ofNat t.Columns.length==(0:Int))=decide (t.Columns.length=0):=zDB _ 0
  rw [e0]
  by_cases hc:t.Columns.length=0
  ·rw [decide_eq_true hc]
   cases b <;>cases z1 <;>cases z2 <;>rfl
  ·rw [decide_eq_false hc]
   cases b with
   | false=>rfl
   | true=>
    rw [l5 (b2 rfl) hc]
    cases z1 <;>cases z2 <;>rfl
 unfold zdP ziU
 rw [Wy.fin_bn,l3]
 rfl
end Go.Proofs.YtddkaehkimnklaaGreatDoor
end
