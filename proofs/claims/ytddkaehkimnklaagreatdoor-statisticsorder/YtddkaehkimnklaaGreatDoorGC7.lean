/- Texts of this claim, joined (the program, its functions in plain words, and what they compute). -/
import Derived.Test.YtddkaehkimnklaaGreatDoorGC1
import Derived.Test.YtddkaehkimnklaaGreatDoorGA3
import Derived.Test.YtddkaehkimnklaaGreatDoorGC6
import Derived.Test.YtddkaehkimnklaaGreatDoorGC4
import Derived.Test.YtddkaehkimnklaaGreatDoorGC5
set_option autoImplicit false
set_option linter.unusedVariables false
set_option linter.unusedSectionVars false
set_option linter.unusedSimpArgs false
set_option maxRecDepth 1000000
set_option maxHeartbeats 0
noncomputable section
namespace Go.Proofs.YtddkaehkimnklaaGreatDoor
open Go Go.Ab
def colV (rows:List Row) (k:Nat):List Value:=rows.map fun r=>r.Values.getD k default
theorem zB7 (rows:List Row) (k i:Nat) (hi:i<rows.length):(colV rows k).getD i default=(rows.getD i default).Values.getD k default:=by
 show ((rows.map fun r=>r.Values.getD k default)[i]?).getD default=((rows[i]?).getD default).Values.getD k default
 rw [List.getElem?_map,List.getElem?_eq_getElem hi]; rfl
def wide (rows:List Row) (k:Nat):Prop:=∀ r∈rows,k<r.Values.length
def okT (t:Table):Bool:=znp t.Columns&&t.Rows.all fun r=>fitR t.Columns r.Values
def zhF (t:Table) (n:Nat):List ColumnStats:=(List.range n).map fun k=>colR (colV t.Rows k)
theorem zHk (t:Table) (n:Nat):zhF t (n+1)=zhF t n++[colR (colV t.Rows n)]:=by
 unfold zhF; rw [List.range_succ,List.map_append]; rfl
theorem zvN (t:Table) (n:Nat):(zhF t n).length=n:=by simp [zhF]
def gatR (t:Table):Stats:=bif okT t then ⟨t.ID,(t.Rows.length:Int),zhF t t.Columns.length⟩ else ⟨0,0,[]⟩
theorem zFg {t:Table} (h:okT t=true) {k:Nat} (hk:k<t.Columns.length):wide t.Rows k:=fun r hr=>by
 unfold okT at h
 simp only [Bool.and_eq_true,List.all_eq_true] at h
 have:=h.2 r hr
 unfold fitR at this
 simp only [Bool.and_eq_true,decide_eq_true_eq] at this
 omega
theorem zFj {t:Table} (h:okT t=true):t.Columns.length≤16:=by
 unfold okT znp at h
 simp only [Bool.and_eq_true,decide_eq_true_eq] at h
 exact h.1.1
theorem zDT (t:Table) (k:Nat) (hw:wide t.Rows k) (hl:t.Rows.length≤100000) (a b:Int) (c d e f:Int) (b4:List ColumnStats):∀ (n i:Nat),t.Rows.length<i+n→i≤t.Rows.length→
  zlq n k a b t.Rows t.Rows.length i t c d e f ((colV t.Rows k).take i) b4=(true,(a,b,t,c,d,e,f,colV t.Rows k,b4))
 | 0,i,h,h2=>by omega
 | n+1,i,h,h2=>by
  have hcl:(colV t.Rows k).length=t.Rows.length:=by simp [colV]
  show (zkV k a b t.Rows t.Rows.length i t c d e f ((colV t.Rows k).take i) b4).ev (zM zir default n) (fun r=>(true,r)) (false,default)=_
  unfold zkV
  by_cases hi:i<t.Rows.length
  ·have hk:=hw _ (zhg hi)
   have hg:=zB7 t.Rows k i hi
   simp only [Wy.ev_i,Wy.ev_k,Wy.ev_h,Wy.ev_bn,Wy.ev_d,tT,hi,hk]
   rw [decide_eq_true (zGD (by rw [List.length_take]; simp; omega)),cond_true,zbM (by omega), ← hg, ← zyo (l:=colV t.Rows k) (by omega)]
   exact zDT t k hw hl a b c d e f b4 n (i+1) (by omega) (by omega)
  ·simp only [Wy.ev_i,Wy.ev_k,Wy.ev_h,Wy.ev_bn,Wy.ev_d,tT,hi]
   rw [List.take_of_length_le (by omega)]
theorem zDX (t:Table) (hr:t.Rows.length≤1000) (hc:t.Columns.length≤16) (hw:∀ k,k<t.Columns.length→wide t.Rows k) (a b c d:Int):∀ (n i:Nat),t.Columns.length<i+n→i≤t.Columns.length→
  zlm n t.Columns.length i t a b c d (zhF t i)=(true,(a,b,c,d,zhF t t.Columns.length))
 | 0,i,h,h2=>by omega
 | n+1,i,h,h2=>by
  show (zk0 t.Columns.length i t a b c d (zhF t i)).ev (zM ziu default n) (fun r=>(true,r)) (false,default)=_
  unfold zk0
  by_cases hi:i<t.Columns.length
  ·have hcl:(colV t.Rows i).length=t.Rows.length:=by simp [colV]
   have key:∀ n,t.Rows.length<n→zlq n i t.Columns.length i t.Rows (Int.ofNat t.Rows.length) 0 t a b c d [] (zhF t i)=(true,((t.Columns.length:Int),(i:Int),t,a,b,c,d,colV t.Rows i,zhF t i)):=fun n hn=>
    zDT t i (hw i hi) (by omega) t.Columns.length i a b c d (zhF t i) n 0 (by omega) (by omega)
   rw [Wy.ev_i,ztr,decide_eq_true hi,cond_true,Wy.ev_bn,key _ (by omega),cond_true]
   dsimp only
   rw [Wy.ev_bn,zIg (colV t.Rows i) (by omega),cond_true,Wy.ev_i]
   rw [decide_eq_true (zn9 (show (zhF t i).length+[colR (colV t.Rows i)].length≤1073741824 by rw [zvN]; simp; omega) (by omega)),cond_true,Wy.ev_h,zbM (by omega), ← zHk]
   exact zDX t hr hc hw a b c d n (i+1) (by omega) (by omega)
  ·have:i=t.Columns.length:=by omega
   subst this
   rw [Wy.ev_i,ztr,decide_eq_false (Nat.lt_irrefl _)]; rfl
theorem zEl (t:Table) (hr:t.Rows.length≤1000) (hc:t.Columns.length≤1000):zf1 t=(true,gatR t):=by
 unfold zf1 zm2
 have hg:decide (Int.ofNat t.Rows.length>(1000000:Int))=false:=decide_eq_false (by show ¬ (t.Rows.length:Int)>1000000; omega)
 have hrc:decide (((0:Nat)+t.Rows.length)*(48:Nat)≤reach)=true:=decide_eq_true (zn9 (by omega) (by omega))
 rw [Wy.fin_i,hg,cond_false,Wy.fin_i,hrc,cond_true]
 simp only [List.nil_append]
 have l4:∀ n,t.Rows.length<n→zrN n (Int.ofNat t.Rows.length) 0 t 0 0 t.Rows=(true,bif allN (fun i=>znp t.Columns&&fitR t.Columns (t.Rows.getD i default).Values) t.Rows.length 0 then .inr (t,0,0) else .inl (0,0)):=fun n hn=>
  zDQ (W:=ziV) (z:=.inl default) t.Rows.length (fun i=>((),(),(),Int.ofNat t.Rows.length,(i:Int),())) (fun _=>(t,(0,0,(),()),t.Rows,())) (fun i=>znp t.Columns&&fitR t.Columns (t.Rows.getD i default).Values) (.inl (0,0)) (.inr (t,0,0)) (fun i hi H K D=>by
    show (zhh (Int.ofNat t.Rows.length) i t 0 0 t.Rows).ev H K D=_
    unfold zhh
    obtain ⟨r,hn1⟩:=zIZ t.Columns (t.Rows.getD i default).Values (by omega)
    simp only [Wy.ev_i,Wy.ev_k,Wy.ev_h,Wy.ev_bn,Wy.ev_d,tT,hi,hn1,zbM (show i<4611686018427387904 by omega)]
    cases znp t.Columns <;>cases fitR t.Columns (t.Rows.getD i default).Values <;>rfl) (fun H K D=>by
    show (zhh (Int.ofNat t.Rows.length) t.Rows.length t 0 0 t.Rows).ev H K D=_
    unfold zhh
    simp only [Wy.ev_i,Wy.ev_k,Wy.ev_h,Wy.ev_bn,Wy.ev_d,tT,Nat.lt_irrefl]) n hn
 obtain ⟨r0,hn0⟩:=zIs t.Columns (by omega)
 rw [Wy.fin_bn,l4 _ (by omega),zH8 (fun r:Row=>znp t.Columns&&fitR t.Columns r.Values),cond_true]
 unfold gatR
 cases hok:znp t.Columns with
 | false=>
  have hT:okT t=false:=by unfold okT; rw [hok]; rfl
  rw [hT]
  cases hrow:t.Rows with
  | nil=>
   simp only [List.all_nil,cond_true,Wy.fin_i,isL,getR,cond_false]
   rw [Wy.fin_bn,hn0,hok]; rfl
  | cons x rr=>rfl
 | true=>
  have hT:okT t=t.Rows.all fun r=>true&&fitR t.Columns r.Values:=by unfold okT; rw [hok,Bool.true_and]; simp only [Bool.true_and]
  rw [← hT]
  cases hf:okT t with
  | false=>rfl
  | true=>
   have h15:∀ n,t.Columns.length<n→zlm n (Int.ofNat t.Columns.length) 0 t 0 0 t.ID (Int.ofNat t.Rows.length) []=(true,(0,0,t.ID,Int.ofNat t.Rows.length,zhF t t.Columns.length)):=fun n hn=>
    zDX t hr (zFj hf) (fun k hk=>zFg hf hk) 0 0 t.ID (Int.ofNat t.Rows.length) n 0 (by omega) (by omega)
   simp only [cond_true,Wy.fin_i,isL,getR,cond_false]
   rw [Wy.fin_bn,hn0,hok,cond_true]
   simp only [Wy.fin_i]
   show (bif ((0:Int) != 0) then _ else _)=_
   rw [show ((0:Int) != 0)=false from rfl,cond_false,Wy.fin_bn,h15 _ (by omega)]
   rfl
theorem zzZ:∀ {l:List Factor},zkm l→∀ x∈l,zoI x
 | [],_,x,hx=>by cases hx
 | y::r,h,x,hx=>by
  unfold zkm at h
  rcases List.mem_cons.1 hx with rfl | hx
  ·exact h.1
  ·exact zzZ h.2 x hx
theorem zAh:∀ {l:List Term},zkQ l→∀ x∈l,ztF x
 | [],_,x,hx=>by cases hx
 | y::r,h,x,hx=>by
  unfold zkQ at h
  rcases List.mem_cons.1 hx with rfl | hx
  ·exact h.1
  ·exact zAh h.2 x hx
theorem zCD:∀ {l:List (List Term)},zrV l→∀ x∈l,zkQ x∧x.length≤roomLen
 | [],_,x,hx=>by cases hx
 | y::r,h,x,hx=>by
  unfold zrV at h
  rcases List.mem_cons.1 hx with rfl | hx
  ·exact h.1
  ·exact zCD h.2 x hx
theorem zBH:∀ {l:List Weighted},zoS l→∀ x∈l,wf40 x.Value∧zkQ x.Ann∧x.Ann.length≤roomLen
 | [],_,x,hx=>by cases hx
 | y::r,h,x,hx=>by
  unfold zoS at h
  rcases List.mem_cons.1 hx with rfl | hx
  ·have:=h.1; unfold zyk at this; exact ⟨this.1,this.2.1,this.2.2⟩
  ·exact zBH h.2 x hx
theorem zCw {t:Term} (h:ztF t):wf2 t.Coeff∧zkm t.Factors∧t.Factors.length≤roomLen:=by
 unfold ztF at h; exact ⟨h.1,h.2.1,h.2.2⟩
theorem zFu {t:Factor} (h:zoI t):zvA t.Atom∧wf3 t.Exp:=by
 unfold zoI at h; exact h
theorem zHh {x:Atom} (h:zvA x):(zrV x.Args∧x.Args.length≤roomLen)∧(zoS x.Items∧x.Items.length≤roomLen)∧wf40 x.Bound∧wf3 x.Kind∧zHb x.Row∧wf3 x.Func∧wf3 x.Op:=by
 obtain ⟨k,r,a,f,i,o,b⟩:=x; unfold zvA at h; exact ⟨h.2.2.1,h.2.2.2.2.1,h.2.2.2.2.2.2,h.1,h.2.1,h.2.2.2.1,h.2.2.2.2.2.1⟩
mutual
def zBo:Atom→Nat
 | ⟨_,_,a,_,i,_,b⟩=>i.length+a.length+b.Text.size+zoO a+zmn i
def zi4:List Factor→Nat
 | []=>0
 | ⟨x,_⟩::r=>zBo x+zi4 r
def zgW:List Term→Nat
 | []=>0
 | ⟨_,fs⟩::r=>1+fs.length+zi4 fs+zgW r
def zoO:List (List Term)→Nat
 | []=>0
 | a::r=>zgW a+zoO r
def zmn:List Weighted→Nat
 | []=>0
 | ⟨v,a⟩::r=>v.Text.size+zgW a+zmn r
end
theorem zG2 (x:Atom):zBo x=x.Items.length+x.Args.length+x.Bound.Text.size+zoO x.Args+zmn x.Items:=by cases x; rw [zBo]
theorem zC9 (f:Factor) (r:List Factor):zi4 (f::r)=zBo f.Atom+zi4 r:=by cases f; rw [zi4]
theorem zF6 (t:Term) (r:List Term):zgW (t::r)=1+t.Factors.length+zi4 t.Factors+zgW r:=by cases t; rw [zgW]
theorem zE2 (a:List Term) (r:List (List Term)):zoO (a::r)=zgW a+zoO r:=by rw [zoO]
theorem zEr (w:Weighted) (r:List Weighted):zmn (w::r)=w.Value.Text.size+zgW w.Ann+zmn r:=by cases w; rw [zmn]
theorem zFZ:zoO []=0:=by rw [zoO]
theorem zFE:zmn []=0:=by rw [zmn]
theorem zDA:zi4 []=0:=by rw [zi4]
theorem zGP:zgW []=0:=by rw [zgW]
section
variable (g:List Term→Int→Int→Bool×Int) (a:List Term) (limit d:Nat) (hl:limit≤1000) (hd:d≤100) (B:Nat) (hB:B≤1152921504606846976) (P:List Term→Prop)
include hl hd hB
theorem w14 (x:Atom) (i k:Int) (hlen:x.Args.length≤roomLen) (hg:∀ y∈x.Args,∀ l:Nat,l≤1000→∃ w:Nat,g y l d=(true,(w:Int))∧w≤B∧(w≤l→P y∧zgW y≤w)):
  ∀ (fuel j n:Nat),x.Args.length<j+fuel→j≤x.Args.length→n≤2305843009213693952→∃ n':Nat,zol g fuel a limit (d+1:Nat) n i k j x=(true,(a,(limit:Int),((d+1:Nat):Int),(n':Int),i,k,x))∧n≤n'∧n'≤max n (limit+B)∧(n'≤limit→(∀ y∈x.Args.drop j,P y)∧n+zoO (x.Args.drop j)≤n')
 | 0,j,n,h1,h2,h3=>by omega
 | fuel+1,j,n,h1,h2,h3=>by
  show ∃ n':Nat,(zot g a limit (d+1:Nat) n i k j x).ev (fun x y=>zol g fuel x.1 x.2.1 x.2.2.1 x.2.2.2.1 x.2.2.2.2.1 x.2.2.2.2.2.1 x.2.2.2.2.2.2.2.1 y.1) (fun r=>(true,r)) (false,default)=_∧_
  unfold zot
  have hml:roomLen=140737488351232:=rfl
  by_cases hj:j<x.Args.length
  ·by_cases hn:n≤limit
   ·have e1:IntKind.i64.wrap ((limit:Int) - (n:Int))=((limit - n:Nat):Int):=by rw [zgT (by omega) (by omega)]; omega
    obtain ⟨w,hw,hwB,hwP⟩:=hg _ (zhg hj) (limit - n) (by omega)
    have ed:IntKind.i64.wrap (((d+1:Nat):Int) - 1)=(d:Int):=by rw [zgT (by omega) (by omega)]; omega
    simp only [Wy.ev_i,Wy.ev_k,Wy.ev_h,Wy.ev_bn,Wy.ev_d,tT,hj,zoG,hn,e1,ed,hw]
    have e3:IntKind.i64.wrap ((n:Int)+(w:Int))=((n+w:Nat):Int):=by rw [zgT (by omega) (by omega)]; omega
    rw [e3,zbM (by omega)]
    obtain ⟨n',h4,h5,h6,h7⟩:=w14 x i k hlen hg fuel (j+1) (n+w) (by omega) (by omega) (by omega)
    refine ⟨n',h4,by omega,by omega,fun hn'=> ?_⟩
    obtain ⟨h8,h9⟩:=h7 hn'
    obtain ⟨p1,p2⟩:=hwP (by omega)
    rw [zla hj,zE2]
    refine ⟨fun y hy=> ?_,by omega⟩
    rcases List.mem_cons.1 hy with rfl | hy
    ·exact p1
    ·exact h8 y hy
   ·simp only [Wy.ev_i,Wy.ev_k,Wy.ev_h,Wy.ev_bn,Wy.ev_d,tT,hj,zoG,hn]
    exact ⟨n,rfl,Nat.le_refl _,by omega,fun h=>absurd h hn⟩
  ·simp only [Wy.ev_i,Wy.ev_k,Wy.ev_h,Wy.ev_bn,Wy.ev_d,tT,hj]
   exact ⟨n,rfl,Nat.le_refl _,by omega,fun _=>by rw [zmQ hj,zFZ]; exact ⟨fun y hy=>(by cases hy),Nat.le_refl _⟩⟩
theorem w18 (x:Atom) (i k:Int) (hlen:x.Items.length≤roomLen) (hg:∀ y∈x.Items,y.Value.Text.size≤roomLen∧∀ l:Nat,l≤1000→∃ w:Nat,g y.Ann l d=(true,(w:Int))∧w≤B∧(w≤l→P y.Ann∧zgW y.Ann≤w)):
  ∀ (fuel j n:Nat),x.Items.length<j+fuel→j≤x.Items.length→n≤2305843009213693952→∃ n':Nat,zoo g fuel a limit (d+1:Nat) n i k j x=(true,(a,(limit:Int),((d+1:Nat):Int),(n':Int),i,k))∧n≤n'∧n'≤max n (limit+roomLen+B)∧(n'≤limit→(∀ y∈x.Items.drop j,y.Value.Text.size≤1000∧P y.Ann)∧n+zmn (x.Items.drop j)≤n')
 | 0,j,n,h1,h2,h3=>by omega
 | fuel+1,j,n,h1,h2,h3=>by
  show ∃ n':Nat,(zn3 g a limit (d+1:Nat) n i k j x).ev (fun x y=>zoo g fuel x.1 x.2.1 x.2.2.1 x.2.2.2.1 x.2.2.2.2.1 x.2.2.2.2.2.1 x.2.2.2.2.2.2.2.1 y.1) (fun r=>(true,r)) (false,default)=_∧_
  unfold zn3
  have hml:roomLen=140737488351232:=rfl
  by_cases hj:j<x.Items.length
  ·by_cases hn:n≤limit
   ·have e1:IntKind.i64.wrap ((limit:Int) - (n:Int))=((limit - n:Nat):Int):=by rw [zgT (by omega) (by omega)]; omega
    obtain ⟨ht,hgy⟩:=hg _ (zhg hj)
    obtain ⟨w,hw,hwB,hwP⟩:=hgy (limit - n) (by omega)
    have ed:IntKind.i64.wrap (((d+1:Nat):Int) - 1)=(d:Int):=by rw [zgT (by omega) (by omega)]; omega
    simp only [Wy.ev_i,Wy.ev_k,Wy.ev_h,Wy.ev_bn,Wy.ev_d,tT,hj,zoG,hn,e1,ed,hw]
    generalize hsz:(x.Items.getD j default).Value.Text.size=sz at *
    have e3:IntKind.i64.wrap (IntKind.i64.wrap ((n:Int)+(sz:Int))+(w:Int))=((n+sz+w:Nat):Int):=by rw [zgT (z:=(n:Int)+(sz:Int)) (by omega) (by omega),zgT (by omega) (by omega)]; omega
    rw [e3,zbM (by omega)]
    obtain ⟨n',h4,h5,h6,h7⟩:=w18 x i k hlen hg fuel (j+1) (n+sz+w) (by omega) (by omega) (by omega)
    refine ⟨n',h4,by omega,by omega,fun hn'=> ?_⟩
    obtain ⟨h8,h9⟩:=h7 hn'
    obtain ⟨p1,p2⟩:=hwP (by omega)
    rw [zla hj,zEr]
    refine ⟨fun y hy=> ?_,by omega⟩
    rcases List.mem_cons.1 hy with rfl | hy
    ·exact ⟨by omega,p1⟩
    ·exact h8 y hy
   ·simp only [Wy.ev_i,Wy.ev_k,Wy.ev_h,Wy.ev_bn,Wy.ev_d,tT,hj,zoG,hn]
    exact ⟨n,rfl,Nat.le_refl _,by omega,fun h=>absurd h hn⟩
  ·simp only [Wy.ev_i,Wy.ev_k,Wy.ev_h,Wy.ev_bn,Wy.ev_d,tT,hj]
   exact ⟨n,rfl,Nat.le_refl _,by omega,fun _=>by rw [zmQ hj,zFE]; exact ⟨fun y hy=>(by cases hy),Nat.le_refl _⟩⟩
theorem w9 (i:Nat) (hi:i<a.length) (hla:(a.getD i default).Factors.length≤roomLen) (hg:∀ f∈(a.getD i default).Factors,f.Atom.Args.length≤roomLen∧f.Atom.Items.length≤roomLen∧f.Atom.Bound.Text.size≤roomLen∧(∀ y∈f.Atom.Args,∀ l:Nat,l≤1000→∃ w:Nat,g y l d=(true,(w:Int))∧w≤B∧(w≤l→P y∧zgW y≤w))∧
   ∀ y∈f.Atom.Items,y.Value.Text.size≤roomLen∧∀ l:Nat,l≤1000→∃ w:Nat,g y.Ann l d=(true,(w:Int))∧w≤B∧(w≤l→P y.Ann∧zgW y.Ann≤w)):
  ∀ (fuel k n:Nat),(a.getD i default).Factors.length<k+fuel→k≤(a.getD i default).Factors.length→n≤2305843009213693952→∃ n':Nat,zpq g fuel a limit (d+1:Nat) n i k=(true,(a,(limit:Int),((d+1:Nat):Int),(n':Int),(i:Int)))∧n≤n'∧n'≤max n (limit+4*roomLen+B)∧
   (n'≤limit→(∀ f∈(a.getD i default).Factors.drop k,(f.Atom.Args.length≤1000∧f.Atom.Items.length≤1000∧f.Atom.Bound.Text.size≤1000)∧(∀ y∈f.Atom.Args,P y)∧∀ y∈f.Atom.Items,y.Value.Text.size≤1000∧P y.Ann)∧n+zi4 ((a.getD i default).Factors.drop k)≤n')
 | 0,k,n,h1,h2,h3=>by omega
 | fuel+1,k,n,h1,h2,h3=>by
  show ∃ n':Nat,(zpx g a limit (d+1:Nat) n i k).ev (fun x y=>zpq g fuel x.1 x.2.1 x.2.2.1 x.2.2.2.1 x.2.2.2.2.1 x.2.2.2.2.2.1) (fun r=>(true,r)) (false,default)=_∧_
  unfold zpx
  have hml:roomLen=140737488351232:=rfl
  by_cases hk:k<(a.getD i default).Factors.length
  ·by_cases hn:n≤limit
   ·simp only [Wy.ev_i,Wy.ev_k,Wy.ev_h,Wy.ev_bn,Wy.ev_d,tT,hi,hk,zoG,hn,Atom.eta]
    obtain ⟨ha1,ha2,ha3,hgA,hgI⟩:=hg _ (zhg hk)
    generalize hf:((a.getD i default).Factors.getD k default)=f at *
    have e0:IntKind.i64.wrap (IntKind.i64.wrap (IntKind.i64.wrap ((n:Int)+(f.Atom.Items.length:Int))+(f.Atom.Args.length:Int))+(f.Atom.Bound.Text.size:Int))=((n+f.Atom.Items.length+f.Atom.Args.length+f.Atom.Bound.Text.size:Nat):Int):=by
     rw [zgT (z:=(n:Int)+(f.Atom.Items.length:Int)) (by omega) (by omega),zgT (z:=(n:Int)+(f.Atom.Items.length:Int)+(f.Atom.Args.length:Int)) (by omega) (by omega),zgT (by omega) (by omega)]; omega
    rw [e0]
    obtain ⟨n1,q1,q2,q3,q4⟩:=w14 g a limit d hl hd B hB P f.Atom i k ha1 hgA (a.length+limit+(d+1)+((n+f.Atom.Items.length+f.Atom.Args.length+f.Atom.Bound.Text.size:Nat):Int).toNat +i+k+Int.toNat 0+f.Atom.Args.length+f.Atom.Items.length+1000) 0 (n+f.Atom.Items.length+f.Atom.Args.length+f.Atom.Bound.Text.size) (by omega) (by omega) (by omega)
    rw [show ((0:Nat):Int)=(0:Int) from rfl] at q1
    rw [q1]
    simp only [cond_true,Atom.eta,Int.toNat_natCast]
    obtain ⟨n2,r1,r2,r3,r4⟩:=w18 g a limit d hl hd B hB P f.Atom i k ha2 hgI (a.length+limit+(d+1)+n1+i+k+Int.toNat 0+f.Atom.Args.length+f.Atom.Items.length+1000) 0 n1 (by omega) (by omega) (by omega)
    rw [show ((0:Nat):Int)=(0:Int) from rfl] at r1
    rw [r1]
    simp only [cond_true]
    rw [zbM (by omega)]
    obtain ⟨n',h4,h5,h6,h7⟩:=w9 i hi hla hg fuel (k+1) n2 (by omega) (by omega) (by omega)
    refine ⟨n',h4,by omega,by omega,fun hn'=> ?_⟩
    obtain ⟨h8,h9⟩:=h7 hn'
    obtain ⟨q5,q6⟩:=q4 (by omega)
    obtain ⟨r5,r6⟩:=r4 (by omega)
    rw [List.drop_zero] at q5 q6 r5 r6
    rw [zla hk,zC9,hf,zG2]
    refine ⟨fun y hy=> ?_,by omega⟩
    rcases List.mem_cons.1 hy with rfl | hy
    ·exact ⟨⟨by omega,by omega,by omega⟩,q5,r5⟩
    ·exact h8 y hy
   ·simp only [Wy.ev_i,Wy.ev_k,Wy.ev_h,Wy.ev_bn,Wy.ev_d,tT,hi,hk,zoG,hn]
    exact ⟨n,rfl,Nat.le_refl _,by omega,fun h=>absurd h hn⟩
  ·simp only [Wy.ev_i,Wy.ev_k,Wy.ev_h,Wy.ev_bn,Wy.ev_d,tT,hi,hk]
   exact ⟨n,rfl,Nat.le_refl _,by omega,fun _=>by rw [zmQ hk,zDA]; exact ⟨fun y hy=>(by cases hy),Nat.le_refl _⟩⟩
theorem w5 (hla:∀ t∈a,t.Factors.length≤roomLen) (hg:∀ t∈a,∀ f∈t.Factors,f.Atom.Args.length≤roomLen∧f.Atom.Items.length≤roomLen∧f.Atom.Bound.Text.size≤roomLen∧(∀ y∈f.Atom.Args,∀ l:Nat,l≤1000→∃ w:Nat,g y l d=(true,(w:Int))∧w≤B∧(w≤l→P y∧zgW y≤w))∧
   ∀ y∈f.Atom.Items,y.Value.Text.size≤roomLen∧∀ l:Nat,l≤1000→∃ w:Nat,g y.Ann l d=(true,(w:Int))∧w≤B∧(w≤l→P y.Ann∧zgW y.Ann≤w)) (hlen:a.length≤roomLen):
  ∀ (fuel i n:Nat),a.length<i+fuel→i≤a.length→n≤2305843009213693952→∃ n':Nat,zpp g fuel a limit (d+1:Nat) n i=(true,(n':Int))∧n≤n'∧n'≤max n (limit+6*roomLen+B)∧
   (n'≤limit→(n+(a.length - i)≤n'∧n+zgW (a.drop i)≤n')∧∀ t∈a.drop i,t.Factors.length≤1000∧∀ f∈t.Factors,(f.Atom.Args.length≤1000∧f.Atom.Items.length≤1000∧f.Atom.Bound.Text.size≤1000)∧(∀ y∈f.Atom.Args,P y)∧∀ y∈f.Atom.Items,y.Value.Text.size≤1000∧P y.Ann)
 | 0,i,n,h1,h2,h3=>by omega
 | fuel+1,i,n,h1,h2,h3=>by
  show ∃ n':Nat,(zpm g a limit (d+1:Nat) n i).ev (fun x y=>zpp g fuel x.1 x.2.1 x.2.2.1 x.2.2.2.1 x.2.2.2.2.1) (fun r=>(true,r)) (false,default)=_∧_
  unfold zpm
  have hml:roomLen=140737488351232:=rfl
  by_cases hi:i<a.length
  ·by_cases hn:n≤limit
   ·simp only [Wy.ev_i,Wy.ev_k,Wy.ev_h,Wy.ev_bn,Wy.ev_d,tT,hi,zoG,hn]
    have hla':=hla _ (zhg hi)
    have e0:IntKind.i64.wrap (IntKind.i64.wrap ((n:Int)+1)+((a.getD i default).Factors.length:Int))=((n+1+(a.getD i default).Factors.length:Nat):Int):=by
     rw [zbM (by omega),zgT (by omega) (by omega)]; omega
    rw [e0]
    obtain ⟨n1,q1,q2,q3,q4⟩:=w9 g a limit d hl hd B hB P i hi hla' (hg _ (zhg hi)) (a.length+limit+(d+1)+((n+1+(a.getD i default).Factors.length:Nat):Int).toNat +i+Int.toNat 0+1000) 0 (n+1+(a.getD i default).Factors.length) (by omega) (by omega) (by omega)
    rw [show ((0:Nat):Int)=(0:Int) from rfl] at q1
    rw [q1]
    simp only [cond_true]
    rw [zbM (by omega)]
    obtain ⟨n',h4,h5,h6,h7⟩:=w5 hla hg hlen fuel (i+1) n1 (by omega) (by omega) (by omega)
    refine ⟨n',h4,by omega,by omega,fun hn'=> ?_⟩
    obtain ⟨⟨h8,h10⟩,h9⟩:=h7 hn'
    obtain ⟨q5,q6⟩:=q4 (by omega)
    rw [List.drop_zero] at q5 q6
    rw [zla hi,zF6]
    refine ⟨⟨by omega,by omega⟩,fun y hy=> ?_⟩
    rcases List.mem_cons.1 hy with rfl | hy
    ·exact ⟨by omega,q5⟩
    ·exact h9 y hy
   ·simp only [Wy.ev_i,Wy.ev_k,Wy.ev_h,Wy.ev_bn,Wy.ev_d,tT,hi,zoG,hn]
    exact ⟨n,rfl,Nat.le_refl _,by omega,fun h=>absurd h hn⟩
  ·simp only [Wy.ev_i,Wy.ev_k,Wy.ev_h,Wy.ev_bn,Wy.ev_d,tT,hi]
   exact ⟨n,rfl,Nat.le_refl _,by omega,fun _=>by rw [zmQ hi,zGP]; exact ⟨⟨by omega,Nat.le_refl _⟩,fun y hy=>(by cases hy)⟩⟩
end
theorem zDP:∀ (d N:Nat),d<N→d≤12→∀ (l:Nat),l≤1000→∀ a,zkQ a→a.length≤roomLen→∃ w:Nat,zjv N a l d=(true,(w:Int))∧w≤(d+1)*4503599627370496∧(w≤l→zjs d a∧zgW a≤w)
 | _,0,h,_,_,_,_,_,_=>by omega
 | 0,N+1,_,_,l,hl,a,hw,hlen=>by
  rw [zuI]
  unfold zk7 zmj
  refine ⟨l+1, ?_,by omega,fun h=>by omega⟩
  simp only [Wy.fin_i,Wy.fin_k]
  rw [zbM (by omega)]; rfl
 | d+1,N+1,hN,hd,l,hl,a,hw,hlen=>by
  rw [zuI]
  unfold zk7 zmj
  have hml:roomLen=140737488351232:=rfl
  have ih:=fun y (h1:zkQ y) (h2:y.length≤roomLen) l hl=>zDP d N (by omega) (by omega) l hl y h1 h2
  have e0:(((d+1:Nat):Int)==(0:Int))=false:=by
   rw [beq_eq_false_iff_ne]; omega
  obtain ⟨n',h1,h2,h3,h4⟩:=w5 (zjv N) a l d hl (by omega) ((d+1)*4503599627370496) (by omega) (zjs d) (fun t ht=>(zCw (zAh hw t ht)).2.2) (fun t ht f hf=>by
   have hx:=zHh (zFu (zzZ (zCw (zAh hw t ht)).2.1 f hf)).1
   refine ⟨hx.1.2,hx.2.1.2,hx.2.2.1.2.2,fun y hy l hl=> ?_,fun y hy=> ?_⟩
   ·have:=zCD hx.1.1 y hy
    exact ih y this.1 this.2 l hl
   ·have:=zBH hx.2.1.1 y hy
    exact ⟨this.1.2.2,fun l hl=>ih y.Ann this.2.1 this.2.2 l hl⟩) hlen (a.length+l+(d+1)+Int.toNat 0+Int.toNat 0+1000) 0 0 (by omega) (by omega) (by omega)
  rw [show ((0:Nat):Int)=(0:Int) from rfl] at h1
  refine ⟨n', ?_,by omega,fun hn=> ?_⟩
  ·simp only [Wy.fin_i,Wy.fin_k,Wy.fin_bn,e0,cond_false,Int.toNat_natCast,h1,cond_true]
  ·obtain ⟨⟨h5,h12⟩,h6⟩:=h4 hn
   rw [List.drop_zero] at h12
   refine ⟨⟨by omega,fun t ht=> ?_⟩,by omega⟩
   obtain ⟨h7,h8⟩:=h6 t (by simpa using ht)
   refine ⟨by omega,fun f hf=> ?_⟩
   obtain ⟨h9,h10,h11⟩:=h8 f hf
   exact ⟨⟨by omega,by omega,by omega⟩,h10,fun w hw=>⟨by have:=(h11 w hw).1; omega,(h11 w hw).2⟩⟩
theorem zFo (limit:Nat) (hl:limit≤1000) (l:List (List Term)) (hll:l.length≤1000) (hw:∀ a∈l,zkQ a∧a.length≤roomLen):∀ (n i:Nat),l.length<i+n→i≤l.length→∃ r,zvG n limit l i=(true,r)∧((r=.inl false)∨(r=.inr ()∧∀ a∈l.drop i,zjs 12 a∧zgW a≤limit))
 | 0,i,h1,h2=>by omega
 | n+1,i,h1,h2=>by
  show ∃ r,(zvI limit l i).ev (fun x y=>zvG n x.1 x.2.1 x.2.2.1) (fun r=>(true,r)) (false,.inl default)=(true,r)∧_
  unfold zvI
  by_cases hi:i<l.length
  ·obtain ⟨w,q1,q2,q3⟩:=zDP 12 1000 (by omega) (by omega) limit hl _ (hw _ (zhg hi)).1 (hw _ (zhg hi)).2
   have q1':zwm (l.getD i default) (limit:Int) 12=(true,(w:Int)):=q1
   simp only [Wy.ev_i,Wy.ev_k,Wy.ev_h,Wy.ev_bn,Wy.ev_d,tT,hi,q1',zDn]
   by_cases hg:limit<w
   ·simp only [hg,decide_true,cond_true]
    exact ⟨_,rfl,.inl rfl⟩
   ·simp only [hg,decide_false,cond_false]
    rw [zbM (by omega)]
    obtain ⟨r,h3,h4⟩:=zFo limit hl l hll hw n (i+1) (by omega) (by omega)
    refine ⟨r,h3, ?_⟩
    rcases h4 with h4 | ⟨h4,h5⟩
    ·exact .inl h4
    ·refine .inr ⟨h4,fun a ha=> ?_⟩
     rw [zla hi] at ha
     rcases List.mem_cons.1 ha with rfl | ha
     ·exact ⟨(q3 (by omega)).1,by have:=(q3 (by omega)).2; omega⟩
     ·exact h5 a ha
  ·simp only [Wy.ev_i,Wy.ev_k,Wy.ev_h,Wy.ev_bn,Wy.ev_d,tT,hi]
   exact ⟨_,rfl,.inr ⟨rfl,fun a ha=>by rw [zmQ hi] at ha; cases ha⟩⟩
theorem zJ1 (limit:Nat) (hl:limit≤1000) (l:List (List Term)) (hll:l.length≤1000) (hw:∀ a∈l,zkQ a∧a.length≤roomLen):∃ b,zri limit l=(true,b)∧(b=true→∀ a∈l,zjs 12 a∧zgW a≤limit):=by
 unfold zri zxs
 obtain ⟨r,h1,h2⟩:=zFo limit hl l hll hw (limit+l.length+Int.toNat 0+1000) 0 (by omega) (by omega)
 rw [show ((0:Nat):Int)=(0:Int) from rfl] at h1
 rw [Wy.fin_bn]
 simp only [Int.toNat_natCast,h1,cond_true]
 rcases h2 with rfl | ⟨rfl,h2⟩
 ·exact ⟨false,rfl,fun h=>by cases h⟩
 ·exact ⟨true,rfl,fun _ a ha=>h2 a (by simpa using ha)⟩
theorem few7 (c:List Column) (rows:List Row) (hc:c.length≤20):∀ (n k:Nat),c.length<k+n→k≤c.length→∃ r,zA5 n (12:Int) (8:Int) [⟨c,rows⟩] (0:Int) k=(true,r)∧(r=.inl false∨r=.inr (12,8,[⟨c,rows⟩],0))
 | 0,k,h,h2=>by omega
 | n+1,k,h,h2=>by
  show ∃ r,(zvZ (12:Int) (8:Int) [⟨c,rows⟩] (0:Int) k).ev (zM zrM (.inl default) n) (fun r=>(true,r)) (false,.inl default)=(true,r)∧_
  unfold zvZ
  have i0:(decide ((0:Int)≤(0:Int))&&decide ((0:Int)<Int.ofNat [(⟨c,rows⟩:Relation)].length))=true:=rfl
  have g0:[(⟨c,rows⟩:Relation)].getD (Int.toNat (0:Int)) default=⟨c,rows⟩:=rfl
  by_cases hk:k<c.length
  ·simp only [Wy.ev_i,Wy.ev_k,Wy.ev_h,Wy.ev_d,i0,g0,cond_true,tT,hk]
   generalize decide (_>(100:Int))=q
   cases q with
   | true=>exact ⟨_,rfl,.inl rfl⟩
   | false=>
    rw [cond_false,zbM (by omega)]
    exact few7 c rows hc n (k+1) (by omega) (by omega)
  ·simp only [Wy.ev_i,Wy.ev_k,Wy.ev_h,Wy.ev_d,i0,g0,cond_true,tT,hk]
   exact ⟨_,rfl,.inr rfl⟩
theorem zI7 (c:List Column) (rows:List Row) (hr:rows.length≤12) (hw:∀ x∈rows,wf38 x):∀ (n k:Nat),rows.length<k+n→k≤rows.length→∃ r,zzJ n (12:Int) (8:Int) [⟨c,rows⟩] (0:Int) k=(true,r)∧(r=.inl false∨r=.inr (12,8,[⟨c,rows⟩],0))
 | 0,k,h,h2=>by omega
 | n+1,k,h,h2=>by
  show ∃ r,(zuB (12:Int) (8:Int) [⟨c,rows⟩] (0:Int) k).ev (zM zqp (.inl default) n) (fun r=>(true,r)) (false,.inl default)=(true,r)∧_
  unfold zuB
  have i0:(decide ((0:Int)≤(0:Int))&&decide ((0:Int)<Int.ofNat [(⟨c,rows⟩:Relation)].length))=true:=rfl
  have g0:[(⟨c,rows⟩:Relation)].getD (Int.toNat (0:Int)) default=⟨c,rows⟩:=rfl
  by_cases hk:k<rows.length
  ·have hx:=hw _ (zhg hk)
   obtain ⟨b,b1,b2⟩:=zIS (rows.getD k default).Values 20 hx.1.2
   obtain ⟨q,q1,q2⟩:=zJ1 8 (by omega) [(rows.getD k default).Ann] (by simp) (fun y hy=>by
    rw [List.mem_singleton] at hy; subst hy; exact hx.2)
   replace b1:zmS (rows.getD k default).Values (20:Int)=(true,b):=b1
   replace q1:zri (8:Int) [(rows.getD k default).Ann]=(true,q):=q1
   simp only [Wy.ev_i,Wy.ev_k,Wy.ev_h,Wy.ev_bn,Wy.ev_d,i0,g0,cond_true,tT,hk,b1,q1]
   cases b with
   | false=>exact ⟨_,rfl,.inl rfl⟩
   | true=>
    cases q with
    | false=>exact ⟨_,rfl,.inl rfl⟩
    | true=>
     rw [zbM (by omega)]
     exact zI7 c rows hr hw n (k+1) (by omega) (by omega)
  ·simp only [Wy.ev_i,Wy.ev_k,Wy.ev_h,Wy.ev_d,i0,g0,cond_true,tT,hk]
   exact ⟨_,rfl,.inr rfl⟩
theorem zJW (t:Table) (ht:wf25 t):∃ b,ztM t=(true,b)∧(b=true→t.Rows.length≤12∧t.Columns.length≤20):=by
 have key:∃ b,ztH (12:Int) (8:Int) [⟨t.Columns,t.Rows⟩]=(true,b)∧(b=true→t.Rows.length≤12∧t.Columns.length≤20):=by
  unfold ztH zxF
  have l2:∃ r,∀ n,zwf (n+2) (12:Int) (8:Int) [⟨t.Columns,t.Rows⟩] (0:Int)=(true,r)∧(r=.inl false∨(r=.inr ()∧t.Rows.length≤12∧t.Columns.length≤20)):=by
   have step:∀ n,zwf (n+2) (12:Int) (8:Int) [⟨t.Columns,t.Rows⟩] (0:Int)=(zjO (12:Int) (8:Int) [⟨t.Columns,t.Rows⟩] (0:Int)).ev (zM zrI (.inl default) (n+1)) (fun r=>(true,r)) (false,.inl default):=fun n=>rfl
   have i0:(decide ((0:Int)≤(0:Int))&&decide ((0:Int)<Int.ofNat [(⟨t.Columns,t.Rows⟩:Relation)].length))=true:=rfl
   have i00:decide ((0:Int)≤(0:Int))=true:=rfl
   have i1:decide ((0:Int)<Int.ofNat [(⟨t.Columns,t.Rows⟩:Relation)].length)=true:=rfl
   have g0:[(⟨t.Columns,t.Rows⟩:Relation)].getD (Int.toNat (0:Int)) default=⟨t.Columns,t.Rows⟩:=rfl
   have e1:decide (Int.ofNat t.Rows.length>(12:Int))=decide (t.Rows.length>12):=zDn _ 12
   have e2:decide (Int.ofNat t.Columns.length>(20:Int))=decide (t.Columns.length>20):=zDn _ 20
   by_cases h1:t.Rows.length>12
   ·refine ⟨.inl false,fun n=>⟨?_,.inl rfl⟩⟩
    rw [step]
    unfold zjO
    simp only [Wy.ev_i,Wy.ev_k,i00,i1,Bool.and_self,g0,e1,decide_eq_true h1,cond_true]
   ·by_cases h2:t.Columns.length>20
    ·refine ⟨.inl false,fun n=>⟨?_,.inl rfl⟩⟩
     rw [step]
     unfold zjO
     simp only [Wy.ev_i,Wy.ev_k,i00,i1,Bool.and_self,g0,e1,e2,decide_eq_false h1,decide_eq_true h2,cond_true,cond_false]
    ·obtain ⟨r7,a1,a2⟩:=few7 t.Columns t.Rows (by omega) ((12:Int).toNat +(8:Int).toNat +[(⟨t.Columns,t.Rows⟩:Relation)].length+(0:Int).toNat +Int.toNat (0:Int)+(1000:Nat)) 0 (by simp; omega) (by omega)
     obtain ⟨r12,b1,b2⟩:=zI7 t.Columns t.Rows (by omega) ht.2.2.2.1 ((12:Int).toNat +(8:Int).toNat +[(⟨t.Columns,t.Rows⟩:Relation)].length+(0:Int).toNat +Int.toNat (0:Int)+(1000:Nat)) 0 (by simp; omega) (by omega)
     rw [show ((0:Nat):Int)=(0:Int) from rfl] at a1 b1
     rcases a2 with rfl | rfl
     ·refine ⟨.inl false,fun n=>⟨?_,.inl rfl⟩⟩
      rw [step]
      unfold zjO
      simp only [Wy.ev_i,Wy.ev_k,Wy.ev_bn,i00,i1,Bool.and_self,g0,e1,e2,decide_eq_false h1,decide_eq_false h2,cond_true,cond_false,a1,isL,getL]
     ·rcases b2 with rfl | rfl
      ·refine ⟨.inl false,fun n=>⟨?_,.inl rfl⟩⟩
       rw [step]
       unfold zjO
       simp only [Wy.ev_i,Wy.ev_k,Wy.ev_bn,i00,i1,Bool.and_self,g0,e1,e2,decide_eq_false h1,decide_eq_false h2,cond_true,cond_false,a1,b1,isL,getL,getR]
      ·refine ⟨.inr (),fun n=>⟨?_,.inr ⟨rfl,by omega,by omega⟩⟩⟩
       rw [step]
       unfold zjO
       simp only [Wy.ev_i,Wy.ev_k,Wy.ev_h,Wy.ev_bn,i00,i1,Bool.and_self,g0,e1,e2,decide_eq_false h1,decide_eq_false h2,cond_true,cond_false,a1,b1,isL,getL,getR]
       rfl
  obtain ⟨r,hr⟩:=l2
  obtain ⟨h1,h2⟩:=hr ((12:Int).toNat +(8:Int).toNat +[(⟨t.Columns,t.Rows⟩:Relation)].length+Int.toNat (0:Int)+(998:Nat))
  rw [Wy.fin_bn,show (12:Int).toNat +(8:Int).toNat +[(⟨t.Columns,t.Rows⟩:Relation)].length+Int.toNat (0:Int)+(1000:Nat)=(12:Int).toNat +(8:Int).toNat +[(⟨t.Columns,t.Rows⟩:Relation)].length+Int.toNat (0:Int)+(998:Nat)+2 from rfl,h1]
  rcases h2 with rfl | ⟨rfl,h2⟩
  ·exact ⟨false,rfl,fun h=>by cases h⟩
  ·exact ⟨true,rfl,fun _=>h2⟩
 obtain ⟨b,b1,b2⟩:=key
 refine ⟨b, ?_,b2⟩
 unfold ztM zxD
 rw [Wy.fin_bn,b1]; rfl
theorem zGu {s:List Value} (h:AscV s) {i j:Nat} (hij:i≤j) (hj:j<s.length):cmpV (s.getD i default) (s.getD j default)≤0:=by
 by_cases he:i=j
 ·subst he; rw [(zwQ _ _).2 rfl]; omega
 ·have:=List.pairwise_iff_getElem.1 h i j (by omega) hj (by omega)
  have e1:s.getD i default=s[i]:=by rw [List.getD_eq_getElem?_getD,List.getElem?_eq_getElem (by omega)]; rfl
  have e2:s.getD j default=s[j]:=by rw [List.getD_eq_getElem?_getD,List.getElem?_eq_getElem hj]; rfl
  rw [e1,e2]; exact this
theorem zHQ (t:Table) (hc:t.Columns.length≤1000):(gatR t).Columns.length≤1000∧∀ c∈(gatR t).Columns,c.Bounds.length≤8:=by
 unfold gatR
 cases h:okT t with
 | false=>exact ⟨by simp,fun c hc=>by simp at hc⟩
 | true=>
  refine ⟨by rw [cond_true,zvN]; exact hc,fun c hc=> ?_⟩
  rw [cond_true] at hc
  unfold zhF at hc
  obtain ⟨k,hk,rfl⟩:=List.mem_map.1 hc
  unfold colR
  split
  ·simp
  ·rw [zBR]; exact Nat.le_refl _
def rot (l:List Row) (n k:Nat):List Row:=(List.range k).map fun i=>l.getD ((i+n) % l.length) default
theorem zIQ (l:List Row) (n k:Nat):rot l n (k+1)=rot l n k++[l.getD ((k+n) % l.length) default]:=by
 unfold rot; rw [List.range_succ,List.map_append]; rfl
theorem zr6 (l:List Row) (n k:Nat):(rot l n k).length=k:=by simp [rot]
theorem zKi (l:List Row) (n:Nat) (h:0<l.length):rot l n l.length=l.drop (n % l.length)++l.take (n % l.length):=by
 have hr:n % l.length<l.length:=Nat.mod_lt _ h
 have hlen:(l.drop (n % l.length)++l.take (n % l.length)).length=l.length:=by rw [List.length_append,List.length_drop,List.length_take]; omega
 refine List.ext_getElem (by rw [zr6,hlen]) fun i h1 h2=> ?_
 rw [zr6] at h1
 have e1:(rot l n l.length)[i]'(by rw [zr6]; exact h1)=l.getD ((i+n) % l.length) default:=by
  unfold rot; rw [List.getElem_map,List.getElem_range]
 rw [e1]
 have hm:(i+n) % l.length=(i+n % l.length) % l.length:=by rw [Nat.add_mod_mod]
 rw [hm]
 generalize n % l.length=r at hr h2 hlen
 have hg:∀ j (hj:j<l.length),l.getD j default=l[j]:=fun j hj=>by rw [List.getD_eq_getElem?_getD,List.getElem?_eq_getElem hj]; rfl
 by_cases hi:i<(l.drop r).length
 ·rw [List.getElem_append_left hi,List.getElem_drop]
  rw [List.length_drop] at hi
  have:(i+r) % l.length=r+i:=by rw [Nat.mod_eq_of_lt (by omega)]; omega
  rw [this,hg _ (by omega)]
 ·rw [List.getElem_append_right (by omega),List.getElem_take]
  rw [List.length_drop] at hi
  have:(i+r) % l.length=i+r - l.length:=by
   rw [Nat.mod_eq_sub_mod (by omega),Nat.mod_eq_of_lt (by omega)]
  rw [this,hg _ (by omega)]
  congr 1
  rw [List.length_drop]
  omega
theorem zIV (l:List Row) (n:Nat):(rot l n l.length).Perm l:=by
 by_cases h:0<l.length
 ·rw [zKi l n h]
  refine List.perm_append_comm.trans ?_
  rw [List.take_append_drop]
 ·have:l=[]:=List.eq_nil_of_length_eq_zero (by omega)
  subst this; exact .refl _
theorem zHw {l l':List Value} (h:l.length<4611686018427387904) (hp:l'.Perm l):colR l'=colR l:=by
 unfold colR
 rw [zHn h hp,hp.length_eq]
theorem zIO (t:Table) (nm:ByteArray) (rows:List Row) (hr:t.Rows.length≤1000) (hp:rows.Perm t.Rows):gatR ⟨t.ID,nm,t.Columns,rows⟩=gatR t:=by
 have hok:okT ⟨t.ID,nm,t.Columns,rows⟩=okT t:=by
  unfold okT
  show (znp t.Columns&&rows.all _)=_
  rw [hp.all_eq]
 unfold gatR
 rw [hok]
 cases okT t with
 | false=>rfl
 | true=>
  rw [cond_true,cond_true]
  show (⟨t.ID,(rows.length:Int),zhF _ t.Columns.length⟩:Stats)=_
  have hc:zhF ⟨t.ID,nm,t.Columns,rows⟩ t.Columns.length=zhF t t.Columns.length:=by
   unfold zhF
   refine List.map_congr_left fun k _=> ?_
   refine zHw (by simp [colV]; omega) ?_
   exact hp.map _
  rw [hc,hp.length_eq]
theorem zyK (i m:Nat):decide ((i:Int)<Int.ofNat m)=decide (i<m):=ztr i m
theorem zFK (t:Table) (turn:Nat) (htn:turn≤255) (hr:t.Rows.length≤12) (s:Stats) (a:Int) (b:ByteArray) (c:List Column):∀ (n i:Nat),t.Rows.length<i+n→i≤t.Rows.length→
  zjF n turn i t s a b c (rot t.Rows turn i)=(true,(t,s,a,b,c,rot t.Rows turn t.Rows.length))
 | 0,i,h,h2=>by omega
 | n+1,i,h,h2=>by
  show (zjG turn i t s a b c (rot t.Rows turn i)).ev (zM zhj default n) (fun r=>(true,r)) (false,default)=_
  unfold zjG
  by_cases hi:i<t.Rows.length
  ·have e1:IntKind.i64.wrap ((i:Int)+IntKind.i64.wrap (turn:Int))=((i+turn:Nat):Int):=by
    rw [zgT (z:=(turn:Int)) (by omega) (by omega),zgT (by omega) (by omega)]; omega
   have e2:(((i+turn:Nat):Int)).tmod (Int.ofNat t.Rows.length)=(((i+turn) % t.Rows.length:Nat):Int):=rfl
   have hm:(i+turn) % t.Rows.length<t.Rows.length:=Nat.mod_lt _ (by omega)
   have hz:(!decide (Int.ofNat t.Rows.length=(0:Int)))=true:=by
    rw [decide_eq_false]; rfl
    show ¬ (t.Rows.length:Int)=0
    omega
   have hin:(decide ((0:Int)≤(((i+turn) % t.Rows.length:Nat):Int))&&decide ((((i+turn) % t.Rows.length:Nat):Int)<Int.ofNat t.Rows.length))=true:=by
    simp only [tT,hm]
   rw [Wy.ev_i,zyK,decide_eq_true hi,cond_true,Wy.ev_i,hz,cond_true,e1,e2,Wy.ev_i,hin,cond_true,Wy.ev_i,Int.toNat_natCast]
   rw [decide_eq_true (zn9 (show (rot t.Rows turn i).length+[t.Rows.getD ((i+turn) % t.Rows.length) default].length≤1073741824 by rw [zr6]; simp; omega) (by omega)),cond_true,Wy.ev_h,zbM (by omega), ← zIQ]
   exact zFK t turn htn hr s a b c n (i+1) (by omega) (by omega)
  ·have:i=t.Rows.length:=by omega
   subst this
   rw [Wy.ev_i,zyK,decide_eq_false (Nat.lt_irrefl _)]; rfl
theorem veq2 (a b:Value):(a.Kind==b.Kind&&(a.Int==b.Int&&a.Text.toList==b.Text.toList))=decide (a=b):=by rw [← veq]; simp
theorem zze (t:Table) (s:Stats) (k:Nat) (v:Value) (m:Int) (hw:wide t.Rows k) (hr:t.Rows.length≤12) (i:Nat) (hi:i≤t.Rows.length):∀ (n j:Nat) (f:Bool),i<j+n→j≤i→
  zi5 n k m i f j t s v=(true,((k:Int),m,(i:Int),f&&(((colV t.Rows k).take i).drop j).all (fun x=> !decide (x=v)),t,s,v))
 | 0,j,f,h,h2=>by omega
 | n+1,j,f,h,h2=>by
  have hcl:(colV t.Rows k).length=t.Rows.length:=by simp [colV]
  show (ziX k m i f j t s v).ev (zM zgY default n) (fun r=>(true,r)) (false,default)=_
  unfold ziX
  by_cases hj:j<i
  ·have hjr:j<t.Rows.length:=by omega
   have hk:=hw _ (zhg hjr)
   have htl:((colV t.Rows k).take i).length=i:=by rw [List.length_take]; omega
   have hget:((colV t.Rows k).take i).getD j default=(t.Rows.getD j default).Values.getD k default:=by
    rw [← zB7 t.Rows k j hjr,List.getD_eq_getElem?_getD,List.getElem?_take,if_pos hj,List.getD_eq_getElem?_getD]
   rw [zla (l:=(colV t.Rows k).take i) (by omega),List.all_cons,hget]
   simp only [Wy.ev_i,Wy.ev_k,Wy.ev_h,Wy.ev_bn,Wy.ev_d,tT,hj,hjr,hk,veq2,zbM (show j<4611686018427387904 by omega)]
   cases f with
   | false=>
    rw [cond_false]
    have ih:=zze t s k v m hw hr i hi n (j+1) false (by omega) (by omega)
    rw [Bool.false_and] at ih
    exact ih
   | true=>
    rw [cond_true]
    exact zze t s k v m hw hr i hi n (j+1) _ (by omega) (by omega)
  ·have:j=i:=by omega
   subst this
   have:((colV t.Rows k).take j).drop j=[]:=List.drop_eq_nil_of_le (by rw [List.length_take]; omega)
   rw [this,Wy.ev_i,ztr,decide_eq_false hj]
   simp [Wy.ev_k]
theorem zIb (l:List Value) (x:Value):dedV (l++[x])=insD x (dedV l):=by unfold dedV; rw [List.foldl_append]; rfl
theorem zyj (l:List Value):(dedV l).Nodup∧∀ x,x∈dedV l↔x∈l:=by
 obtain ⟨h1,h2⟩:=zG9 l [] .nil
 exact ⟨h1,fun x=>by rw [show (x∈dedV l)=(x∈l.foldl (fun d v=>insD v d) []) from rfl,h2]; simp⟩
theorem zJ4 (l:List Value) (v:Value):l.all (fun x=> !decide (x=v))= !decide (v∈l):=by
 by_cases h:v∈l
 ·rw [decide_eq_true h,Bool.not_true,List.all_eq_false]
  exact ⟨v,h,by simp⟩
 ·rw [decide_eq_false h,Bool.not_false,List.all_eq_true]
  intro x hx
  have:¬ x=v:=fun e=>h (e ▸ hx)
  simp [this]
theorem zJb {l:List Value} (hl:l.length≤1000000) (h0:l.length≠0) {v:Value} (hv:v∈l):¬ cmpV v (colR l).Min<0∧¬ cmpV v (colR l).Max>0:=by
 have ha:=zB9 (l:=l) (by omega)
 have hs:=zBL l
 obtain ⟨i,hi,he⟩:=List.mem_iff_getElem.1 ((ztI l).mem_iff.2 hv)
 have hg:(srtV l).getD i default=v:=by rw [List.getD_eq_getElem?_getD,List.getElem?_eq_getElem hi]; exact he
 have h1:=zGu ha (Nat.zero_le i) hi
 have h2:=zGu ha (show i≤l.length - 1 by omega) (by omega)
 rw [hg] at h1 h2
 have e1:(colR l).Min=(srtV l).getD 0 default:=by unfold colR; rw [if_neg h0]
 have e2:(colR l).Max=(srtV l).getD (l.length - 1) default:=by unfold colR; rw [if_neg h0]
 rw [e1,e2]
 have:=ztW ((srtV l).getD 0 default) v
 omega
theorem zFq (t:Table) (s:Stats) (k:Nat) (hw:wide t.Rows k) (hr:t.Rows.length≤12) (hk:k<s.Columns.length) (hc:s.Columns.getD k default=colR (colV t.Rows k)):∀ (n i:Nat),t.Rows.length<i+n→i≤t.Rows.length→
  ziZ n k ((dedV ((colV t.Rows k).take i)).length:Nat) i t s=(true,.inr ((k:Int),((dedV (colV t.Rows k)).length:Int),t,s))
 | 0,i,h,h2=>by omega
 | n+1,i,h,h2=>by
  have hcl:(colV t.Rows k).length=t.Rows.length:=by simp [colV]
  show (zja k ((dedV ((colV t.Rows k).take i)).length:Nat) i t s).ev (zM zg3 (.inl default) n) (fun r=>(true,r)) (false,.inl default)=_
  unfold zja
  by_cases hi:i<t.Rows.length
  ·have hkv:=hw _ (zhg hi)
   have hdl:(dedV ((colV t.Rows k).take i)).length≤12:=by
    have hd:=zyj ((colV t.Rows k).take i)
    have:=zeR hd.1 fun x hx=>(hd.2 x).1 hx
    rw [List.length_take] at this; omega
   have i1:(decide ((0:Int)≤(i:Int))&&decide ((i:Int)<Int.ofNat t.Rows.length))=true:=by simp only [tT,hi]
   have i2:(decide ((0:Int)≤(k:Int))&&decide ((k:Int)<Int.ofNat (t.Rows.getD i default).Values.length))=true:=by simp only [tT,hkv]
   have i3:(decide ((0:Int)≤(k:Int))&&decide ((k:Int)<Int.ofNat s.Columns.length))=true:=by simp only [tT,hk]
   have hv:(t.Rows.getD i default).Values.getD k default=(colV t.Rows k).getD i default:=(zB7 t.Rows k i hi).symm
   have hmem:(colV t.Rows k).getD i default∈colV t.Rows k:=zhg (by omega)
   have hm:=zJb (by omega) (by omega) hmem
   have key:∀ N,i<N→zi5 N k ((dedV ((colV t.Rows k).take i)).length:Nat) i true (0:Int) t s ((colV t.Rows k).getD i default)=(true,((k:Int),(((dedV ((colV t.Rows k).take i)).length:Nat):Int),(i:Int), !decide ((colV t.Rows k).getD i default∈(colV t.Rows k).take i),t,s,(colV t.Rows k).getD i default)):=fun N hN=>by
    have:=zze t s k ((colV t.Rows k).getD i default) ((dedV ((colV t.Rows k).take i)).length:Nat) hw hr i h2 N 0 true (by omega) (by omega)
    rw [List.drop_zero,zJ4,Bool.true_and] at this
    exact this
   rw [Wy.ev_i,Wy.ev_i,i1,cond_true,zyK,decide_eq_true hi,cond_true,Int.toNat_natCast,Int.toNat_natCast,Wy.ev_i,i2,cond_true,hv,Wy.ev_bn,key _ (by omega),cond_true]
   simp only [Wy.ev_i,Wy.ev_k,Wy.ev_h,Wy.ev_bn,i3,Int.toNat_natCast,hc,ref01_Compare_eq',cond_true,decide_eq_false hm.1,decide_eq_false hm.2,cond_false,zbM (show i<4611686018427387904 by omega),zbM (show (dedV ((colV t.Rows k).take i)).length<4611686018427387904 by omega)]
   have hnext:(dedV ((colV t.Rows k).take (i+1))).length=(bif !decide ((colV t.Rows k).getD i default∈(colV t.Rows k).take i) then (dedV ((colV t.Rows k).take i)).length+1 else (dedV ((colV t.Rows k).take i)).length):=by
    rw [zyo (l:=colV t.Rows k) (by omega),zIb]
    unfold insD
    by_cases hin:(colV t.Rows k).getD i default∈(colV t.Rows k).take i
    ·rw [if_pos (((zyj _).2 _).2 hin),decide_eq_true hin]; rfl
    ·rw [if_neg (fun hc=>hin (((zyj _).2 _).1 hc)),decide_eq_false hin]
     simp
   have ih:=zFq t s k hw hr hk hc n (i+1) (by omega) (by omega)
   rw [hnext] at ih
   cases hb:(!decide ((colV t.Rows k).getD i default∈(colV t.Rows k).take i)) with
   | true=>rw [hb,cond_true] at ih; rw [cond_true]; exact ih
   | false=>rw [hb,cond_false] at ih; rw [cond_false]; exact ih
  ·have:i=t.Rows.length:=by omega
   subst this
   rw [Wy.ev_i,zyK,decide_eq_false (Nat.lt_irrefl _),List.take_of_length_le (by omega)]; rfl
theorem zEY (t:Table) (hT:okT t=true) (hr:t.Rows.length≤12) (h0:t.Rows.length≠0) (s:Stats) (hs:s.Columns=zhF t t.Columns.length):∀ (n k:Nat),t.Columns.length<k+n→k≤t.Columns.length→
  ziU n k t s=(true,.inr ())
 | 0,k,h,h2=>by omega
 | n+1,k,h,h2=>by
  have hsl:s.Columns.length=t.Columns.length:=by rw [hs,zvN]
  show (zjg k t s).ev (zM zeA (.inl default) n) (fun r=>(true,r)) (false,.inl default)=_
  unfold zjg
  have e0:decide ((k:Int)<Int.ofNat s.Columns.length)=decide (k<t.Columns.length):=by rw [hsl]; exact ztr _ _
  rw [Wy.ev_i,e0]
  by_cases hk:k<t.Columns.length
  ·have hcl:(colV t.Rows k).length=t.Rows.length:=by simp [colV]
   have hcol:s.Columns.getD k default=colR (colV t.Rows k):=by
    rw [hs]; unfold zhF
    rw [List.getD_eq_getElem?_getD,List.getElem?_map,List.getElem?_range hk]; rfl
   have key:∀ N,t.Rows.length<N→ziZ N k (0:Int) (0:Int) t s=(true,.inr ((k:Int),((dedV (colV t.Rows k)).length:Int),t,s)):=fun N hN=>
    zFq t s k (zFg hT hk) hr (by omega) hcol N 0 (by omega) (by omega)
   have hd:(dedV (colV t.Rows k)).length=zAw (srtV (colV t.Rows k)):=zD6 (by omega) (zyj _).1 (zyj _).2
   have hdc:(colR (colV t.Rows k)).Distinct=((dedV (colV t.Rows k)).length:Int):=by
    rw [hd]; unfold colR; rw [if_neg (by omega)]
   have i3:(decide ((0:Int)≤(k:Int))&&decide ((k:Int)<Int.ofNat s.Columns.length))=true:=by rw [e0,decide_eq_true hk,decide_eq_true (by omega)]; rfl
   rw [decide_eq_true hk,cond_true,Wy.ev_bn,key _ (by omega),cond_true]
   show (Wy.i false (.k (.inl false)) (.i (decide ((0:Int)≤(k:Int))&&decide ((k:Int)<Int.ofNat s.Columns.length)) (.i (((dedV (colV t.Rows k)).length:Int) != (s.Columns.getD (k:Int).toNat default).Distinct) (.k (.inl false)) (.h ((),(),(IntKind.i64.wrap ((k:Int)+(1:Int))),()) (t,s,()))) .d):Wy (Unit×Unit×Int×Unit) (Table×Stats×Unit) (Bool⊕Unit)).ev (zM zeA (.inl default) n) (fun r=>(true,r)) (false,.inl default)=_
   simp only [Wy.ev_i,Wy.ev_k,Wy.ev_h,cond_false,i3,cond_true,Int.toNat_natCast,hcol,hdc,bne0,decide_true,Bool.not_true,zbM (show k<4611686018427387904 by have:=zFj hT; omega)]
   exact zEY t hT hr h0 s hs n (k+1) (by omega) (by omega)
  ·rw [decide_eq_false hk]; rfl
theorem zGd (t:Table) (turn:Int) (ht:wf25 t) (hu:wf5 turn):ze4 t turn=(true,true):=by
 obtain ⟨b,b1,b2⟩:=zJW t ht
 have hu2:0≤turn∧turn≤255:=by
  unfold wf5 Lit.wf at hu
  simp only [Bool.and_eq_true,decide_eq_true_eq] at hu
  have h0:IntKind.u8.min=0:=by decide
  have h1:IntKind.u8.max=255:=by decide
  omega
 obtain ⟨m,rfl⟩:∃ m:Nat,turn=(m:Int):=⟨turn.toNat,by omega⟩
 have l13:t.Rows.length≤12∧t.Columns.length≤20→znl 1 t (gatR t)=(true,true):=fun h=>by
  show (zi9 t (gatR t)).ev (zM zgZ default 0) (fun r=>(true,r)) (false,default)=_
  unfold zi9
  simp only [Wy.ev_i,Wy.ev_k,Wy.ev_bn,bne0,beqd]
  cases hT:okT t with
  | false=>
   have hg:(gatR t).Rows=0:=by unfold gatR; rw [hT]; rfl
   rw [hg]
   generalize decide ((0:Int)=Int.ofNat t.Rows.length)=z
   cases z <;>rfl
  | true=>
   have hg:gatR t=⟨t.ID,(t.Rows.length:Int),zhF t t.Columns.length⟩:=by unfold gatR; rw [hT]; rfl
   have hgr:(gatR t).Rows=(t.Rows.length:Int):=by rw [hg]
   rw [hgr]
   have e1:decide ((t.Rows.length:Int)=Int.ofNat t.Rows.length)=true:=decide_eq_true rfl
   rw [e1,Bool.not_true,cond_false]
   by_cases h0:t.Rows.length=0
   ·rw [h0]; rfl
   ·have e2:decide ((t.Rows.length:Int)=0)=false:=decide_eq_false (by omega)
    rw [e2,cond_false]
    have l15:znf 1 t (gatR t)=(true,true):=by
     show (zi0 t (gatR t)).ev (zM zg2 default 0) (fun r=>(true,r)) (false,default)=_
     unfold zi0
     have key:∀ N,t.Columns.length<N→ziU N (0:Int) t (gatR t)=(true,.inr ()):=fun N hN=>
      zEY t hT h.1 h0 (gatR t) (by rw [hg]) N 0 (by omega) (by omega)
     rw [Wy.ev_bn,key _ (by omega)]; rfl
    rw [l15]; rfl
 have l5:t.Rows.length≤12∧t.Columns.length≤20→zog 1 m t=(true,true):=fun h=>by
  show (zjC m t).ev (zM zhk default 0) (fun r=>(true,r)) (false,default)=_
  unfold zjC
  have key:∀ N,t.Rows.length<N→zjF N m (0:Int) t (gatR t) t.ID (ByteArray.mk #[]) t.Columns []=(true,(t,gatR t,t.ID,ByteArray.mk #[],t.Columns,rot t.Rows m t.Rows.length)):=fun N hN=>
   zFK t m (by omega) h.1 (gatR t) t.ID (ByteArray.mk #[]) t.Columns N 0 (by omega) (by omega)
  have hs:=zHQ t (by omega)
  have hgp:=zIO t (ByteArray.mk #[]) (rot t.Rows m t.Rows.length) (by omega) (zIV t.Rows m)
  rw [Wy.ev_bn,zEl t (by omega) (by omega),cond_true,Wy.ev_bn,key _ (by omega),cond_true,Wy.ev_bn]
  show (bif (zf1 ⟨t.ID,ByteArray.mk #[],t.Columns,rot t.Rows m t.Rows.length⟩).1 then _ else _)=_
  rw [zEl ⟨t.ID,ByteArray.mk #[],t.Columns,rot t.Rows m t.Rows.length⟩ (by show (rot t.Rows m t.Rows.length).length≤1000; rw [zr6]; omega) (by show t.Columns.length≤1000; omega),hgp,cond_true,Wy.ev_bn]
  show (bif (zoJ (gatR t) (gatR t)).1 then _ else _)=_
  rw [zF7 (gatR t) (by omega) (fun c hc=>by have:=hs.2 c hc; omega)]
  simp only [cond_true,Wy.ev_i,Bool.not_true,cond_false,Wy.ev_bn,l13 h,Wy.ev_k]
 have l3:zor 1 m t=(true,true):=by
  show (zjK m t).ev (zM zhb default 0) (fun r=>(true,r)) (false,default)=_
  unfold zjK
  simp only [Wy.ev_i,Wy.ev_k,Wy.ev_bn,b1,cond_true]
  cases b with
  | false=>rfl
  | true=>rw [l5 (b2 rfl)]; rfl
 unfold ze4 zj3
 rw [Wy.fin_bn,l3]
 rfl
end Go.Proofs.YtddkaehkimnklaaGreatDoor
end
