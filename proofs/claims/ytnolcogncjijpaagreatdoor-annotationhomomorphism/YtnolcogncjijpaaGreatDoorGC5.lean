/- Texts of this claim, joined (the program, its functions in plain words, and what they compute). -/
import Derived.Test.YtnolcogncjijpaaGreatDoorGC1
import Derived.Test.YtnolcogncjijpaaGreatDoorGC4
import Derived.Test.YtnolcogncjijpaaGreatDoorGA2
import Derived.Test.YtnolcogncjijpaaGreatDoorGC2
import Derived.Test.YtnolcogncjijpaaGreatDoorGB1
set_option autoImplicit false
set_option linter.unusedVariables false
set_option linter.unusedSectionVars false
set_option linter.unusedSimpArgs false
set_option maxRecDepth 1000000
set_option maxHeartbeats 0
noncomputable section
namespace Go.Proofs.YtnolcogncjijpaaGreatDoor
open Go Go.Ab
abbrev znX:=List Term×Int×Int×Int×Unit×Int×Unit
abbrev ttTref05Size1:=List Term×Int×Int×Int×Atom
abbrev ttTref05Size2:=List Term×Int×Int×Int
abbrev zz7:=List Term×Int×Int×Int×Unit
abbrev ttTref05Size4:=List Term×Int×Int
abbrev zAc:=List Term×Int×Int×Unit
def znd (zbu:List Term→Bool×Int) (a:List Term) (n_:Int) (i:Int) (k:Int) (j:Int) (x_:Atom):Wy znX (Atom×Unit) ttTref05Size1:=.i (decide (j<Int.ofNat x_.Args.length)) (.i (decide (0≤j)&&decide (j<Int.ofNat x_.Args.length)) (.bn (zbu (x_.Args.getD j.toNat default)) fun r0=>.h (a,(IntKind.i64.wrap (n_+r0)),i,k,(),(IntKind.i64.wrap (j+1)),()) (x_,())) .d) (.k (a,n_,i,k,x_))
def zCm (zbu:List Term→Bool×Int) (x:znX) (y:Atom×Unit):Wy znX (Atom×Unit) ttTref05Size1:=znd zbu x.1 x.2.1 x.2.2.1 x.2.2.2.1 x.2.2.2.2.2.1 y.1
def zBu (zbu:List Term→Bool×Int) (n:Nat) (a:List Term) (n_:Int) (i:Int) (k:Int) (j:Int) (x_:Atom):Bool×ttTref05Size1:=zQ (zCm zbu) default n (a,n_,i,k,(),j,()) (x_,())
def zm2 (zbu:List Term→Bool×Int) (a:List Term) (n_:Int) (i:Int) (k:Int) (j:Int) (x_:Atom):Wy znX (Atom×Unit) ttTref05Size2:=.i (decide (j<Int.ofNat x_.Items.length)) (.i (decide (0≤j)&&decide (j<Int.ofNat x_.Items.length)) (.bn (zbu (x_.Items.getD j.toNat default).Ann) fun r2=>.h (a,(IntKind.i64.wrap (IntKind.i64.wrap (n_+1)+r2)),i,k,(),(IntKind.i64.wrap (j+1)),()) (x_,())) .d) (.k (a,n_,i,k))
def zBF (zbu:List Term→Bool×Int) (x:znX) (y:Atom×Unit):Wy znX (Atom×Unit) ttTref05Size2:=zm2 zbu x.1 x.2.1 x.2.2.1 x.2.2.2.1 x.2.2.2.2.2.1 y.1
def zBJ (zbu:List Term→Bool×Int) (n:Nat) (a:List Term) (n_:Int) (i:Int) (k:Int) (j:Int) (x_:Atom):Bool×ttTref05Size2:=zQ (zBF zbu) default n (a,n_,i,k,(),j,()) (x_,())
def zn6 (zbu:List Term→Bool×Int) (a:List Term) (n_:Int) (i:Int) (k:Int):Wy zz7 (Unit) ttTref05Size4:=.i (decide (0≤i)&&decide (i<Int.ofNat a.length)) (.i (decide (k<Int.ofNat (a.getD i.toNat default).Factors.length)) (.i (decide (0≤i)&&decide (i<Int.ofNat a.length)) (.i (decide (0≤k)&&decide (k<Int.ofNat (a.getD i.toNat default).Factors.length)) (.bn (zBu zbu (((a.length+(IntKind.i64.wrap (n_+1)).toNat +i.toNat +k.toNat +Int.toNat 0+1)+(Atom.mk ((a.getD i.toNat default).Factors.getD k.toNat default).Atom.Kind ((a.getD i.toNat default).Factors.getD k.toNat default).Atom.Row ((a.getD i.toNat default).Factors.getD k.toNat default).Atom.Args ((a.getD i.toNat default).Factors.getD k.toNat default).Atom.Func ((a.getD i.toNat default).Factors.getD k.toNat default).Atom.Items ((a.getD i.toNat default).Factors.getD k.toNat default).Atom.Op ((a.getD i.toNat default).Factors.getD k.toNat default).Atom.Bound).Args.length+(Atom.mk ((a.getD i.toNat default).Factors.getD k.toNat default).Atom.Kind ((a.getD i.toNat default).Factors.getD k.toNat default).Atom.Row ((a.getD i.toNat default).Factors.getD k.toNat default).Atom.Args ((a.getD i.toNat default).Factors.getD k.toNat default).Atom.Func ((a.getD i.toNat default).Factors.getD k.toNat default).Atom.Items ((a.getD i.toNat default).Factors.getD k.toNat default).Atom.Op ((a.getD i.toNat default).Factors.getD k.toNat default).Atom.Bound).Items.length)+szTs a) a (IntKind.i64.wrap (n_+1)) i k 0 (Atom.mk ((a.getD i.toNat default).Factors.getD k.toNat default).Atom.Kind ((a.getD i.toNat default).Factors.getD k.toNat default).Atom.Row ((a.getD i.toNat default).Factors.getD k.toNat default).Atom.Args ((a.getD i.toNat default).Factors.getD k.toNat default).Atom.Func ((a.getD i.toNat default).Factors.getD k.toNat default).Atom.Items ((a.getD i.toNat default).Factors.getD k.toNat default).Atom.Op ((a.getD i.toNat default).Factors.getD k.toNat default).Atom.Bound)) fun r5=>.bn (zBJ zbu (((r5.1.length+r5.2.1.toNat +r5.2.2.1.toNat +r5.2.2.2.1.toNat +Int.toNat 0+1)+(Atom.mk r5.2.2.2.2.Kind r5.2.2.2.2.Row r5.2.2.2.2.Args r5.2.2.2.2.Func r5.2.2.2.2.Items r5.2.2.2.2.Op r5.2.2.2.2.Bound).Args.length+(Atom.mk r5.2.2.2.2.Kind r5.2.2.2.2.Row r5.2.2.2.2.Args r5.2.2.2.2.Func r5.2.2.2.2.Items r5.2.2.2.2.Op r5.2.2.2.2.Bound).Items.length)+szTs r5.1) r5.1 r5.2.1 r5.2.2.1 r5.2.2.2.1 0 (Atom.mk r5.2.2.2.2.Kind r5.2.2.2.2.Row r5.2.2.2.2.Args r5.2.2.2.2.Func r5.2.2.2.2.Items r5.2.2.2.2.Op r5.2.2.2.2.Bound)) fun r4=>.h ((r4.1),(r4.2.1),(r4.2.2.1),(IntKind.i64.wrap (r4.2.2.2+1)),()) ()) .d) .d) (.k (a,n_,i))) .d
def zDb (zbu:List Term→Bool×Int) (x:zz7) (y:Unit):Wy zz7 (Unit) ttTref05Size4:=zn6 zbu x.1 x.2.1 x.2.2.1 x.2.2.2.1
def zDo (zbu:List Term→Bool×Int) (n:Nat) (a:List Term) (n_:Int) (i:Int) (k:Int):Bool×ttTref05Size4:=zQ (zDb zbu) default n (a,n_,i,k,()) ()
def zoa (zbu:List Term→Bool×Int) (a:List Term) (n_:Int) (i:Int):Wy zAc (Unit) (Int):=.i (decide (i<Int.ofNat a.length)) (.bn (zDo zbu ((a.length+(IntKind.i64.wrap (n_+1)).toNat +i.toNat +Int.toNat 0+1)+szTs a) a (IntKind.i64.wrap (n_+1)) i 0) fun r8=>.h ((r8.1),(r8.2.1),(IntKind.i64.wrap (r8.2.2+1)),()) ()) (.k n_)
def zC7 (zbu:List Term→Bool×Int) (x:zAc) (y:Unit):Wy zAc (Unit) (Int):=zoa zbu x.1 x.2.1 x.2.2.1
def zC9 (zbu:List Term→Bool×Int) (n:Nat) (a:List Term) (n_:Int) (i:Int):Bool×Int:=zQ (zC7 zbu) default n (a,n_,i,()) ()
def zEa (zbu:List Term→Bool×Int) (a:List Term):Wy0 (Int):=.bn (zC9 zbu ((a.length+Int.toNat 0+Int.toNat 0+1)+szTs a) a 0 0) fun r10=>.k r10
def zCv (zbu:List Term→Bool×Int) (a:List Term):Bool×Int:=(zEa zbu a).fin default
def zMC:Nat→(List Term→Bool×Int)
 | 0=>fun _=>(false,default)
 | n+1=>zCv (zMC n)
def zsH (n:Nat):List Term→Bool×Int:=zMC n
theorem zLh (n:Nat):zsH (n+1)=zCv (zsH n):=rfl
def zKU:List Term→Bool×Int:=zsH 1000
abbrev zkq:=List Term×Int×Int×Int×Unit×Int×Int×Unit
abbrev ttTref05Nesting1:=List Term×Int×Int×Int×Int×Atom
abbrev ttTref05Nesting2:=List Term×Int×Int×Int×Int
abbrev zuI:=List Term×Int×Int×Int×Unit
abbrev ttTref05Nesting4:=List Term×Int×Int
abbrev zuL:=List Term×Int×Int×Unit
def zkg (zba:List Term→Bool×Int) (a:List Term) (most:Int) (i:Int) (k:Int) (n_:Int) (j:Int) (x_:Atom):Wy zkq (Atom×Unit) ttTref05Nesting1:=.i (decide (j<Int.ofNat x_.Args.length)) (.i (decide (0≤j)&&decide (j<Int.ofNat x_.Args.length)) (.bn (zba (x_.Args.getD j.toNat default)) fun r0=>.h (a,most,i,k,(),(if IntKind.i64.wrap (1+r0)>n_ then IntKind.i64.wrap (1+r0) else n_),(IntKind.i64.wrap (j+1)),()) (x_,())) .d) (.k (a,most,i,k,n_,x_))
def zxk (zba:List Term→Bool×Int) (x:zkq) (y:Atom×Unit):Wy zkq (Atom×Unit) ttTref05Nesting1:=zkg zba x.1 x.2.1 x.2.2.1 x.2.2.2.1 x.2.2.2.2.2.1 x.2.2.2.2.2.2.1 y.1
def zq5 (zba:List Term→Bool×Int) (n:Nat) (a:List Term) (most:Int) (i:Int) (k:Int) (n_:Int) (j:Int) (x_:Atom):Bool×ttTref05Nesting1:=zQ (zxk zba) default n (a,most,i,k,(),n_,j,()) (x_,())
def zkd (zba:List Term→Bool×Int) (a:List Term) (most:Int) (i:Int) (k:Int) (n_:Int) (j:Int) (x_:Atom):Wy zkq (Atom×Unit) ttTref05Nesting2:=.i (decide (j<Int.ofNat x_.Items.length)) (.i (decide (0≤j)&&decide (j<Int.ofNat x_.Items.length)) (.bn (zba (x_.Items.getD j.toNat default).Ann) fun r2=>.h (a,most,i,k,(),(if IntKind.i64.wrap (1+r2)>n_ then IntKind.i64.wrap (1+r2) else n_),(IntKind.i64.wrap (j+1)),()) (x_,())) .d) (.k (a,most,i,k,n_))
def zxl (zba:List Term→Bool×Int) (x:zkq) (y:Atom×Unit):Wy zkq (Atom×Unit) ttTref05Nesting2:=zkd zba x.1 x.2.1 x.2.2.1 x.2.2.2.1 x.2.2.2.2.2.1 x.2.2.2.2.2.2.1 y.1
def zxj (zba:List Term→Bool×Int) (n:Nat) (a:List Term) (most:Int) (i:Int) (k:Int) (n_:Int) (j:Int) (x_:Atom):Bool×ttTref05Nesting2:=zQ (zxl zba) default n (a,most,i,k,(),n_,j,()) (x_,())
def zk2 (zba:List Term→Bool×Int) (a:List Term) (most:Int) (i:Int) (k:Int):Wy zuI (Unit) ttTref05Nesting4:=.i (decide (0≤i)&&decide (i<Int.ofNat a.length)) (.i (decide (k<Int.ofNat (a.getD i.toNat default).Factors.length)) (.i (decide (0≤i)&&decide (i<Int.ofNat a.length)) (.i (decide (0≤k)&&decide (k<Int.ofNat (a.getD i.toNat default).Factors.length)) (.i (((a.getD i.toNat default).Factors.getD k.toNat default).Atom.Kind==0) (.h (a,most,i,(IntKind.i64.wrap (k+1)),()) ()) (.bn (zq5 zba (((a.length+most.toNat +i.toNat +k.toNat +Int.toNat 1+Int.toNat 0+1)+(Atom.mk ((a.getD i.toNat default).Factors.getD k.toNat default).Atom.Kind ((a.getD i.toNat default).Factors.getD k.toNat default).Atom.Row ((a.getD i.toNat default).Factors.getD k.toNat default).Atom.Args ((a.getD i.toNat default).Factors.getD k.toNat default).Atom.Func ((a.getD i.toNat default).Factors.getD k.toNat default).Atom.Items ((a.getD i.toNat default).Factors.getD k.toNat default).Atom.Op ((a.getD i.toNat default).Factors.getD k.toNat default).Atom.Bound).Args.length+(Atom.mk ((a.getD i.toNat default).Factors.getD k.toNat default).Atom.Kind ((a.getD i.toNat default).Factors.getD k.toNat default).Atom.Row ((a.getD i.toNat default).Factors.getD k.toNat default).Atom.Args ((a.getD i.toNat default).Factors.getD k.toNat default).Atom.Func ((a.getD i.toNat default).Factors.getD k.toNat default).Atom.Items ((a.getD i.toNat default).Factors.getD k.toNat default).Atom.Op ((a.getD i.toNat default).Factors.getD k.toNat default).Atom.Bound).Items.length)+szTs a) a most i k 1 0 (Atom.mk ((a.getD i.toNat default).Factors.getD k.toNat default).Atom.Kind ((a.getD i.toNat default).Factors.getD k.toNat default).Atom.Row ((a.getD i.toNat default).Factors.getD k.toNat default).Atom.Args ((a.getD i.toNat default).Factors.getD k.toNat default).Atom.Func ((a.getD i.toNat default).Factors.getD k.toNat default).Atom.Items ((a.getD i.toNat default).Factors.getD k.toNat default).Atom.Op ((a.getD i.toNat default).Factors.getD k.toNat default).Atom.Bound)) fun r5=>.bn (zxj zba (((r5.1.length+r5.2.1.toNat +r5.2.2.1.toNat +r5.2.2.2.1.toNat +r5.2.2.2.2.1.toNat +Int.toNat 0+1)+(Atom.mk r5.2.2.2.2.2.Kind r5.2.2.2.2.2.Row r5.2.2.2.2.2.Args r5.2.2.2.2.2.Func r5.2.2.2.2.2.Items r5.2.2.2.2.2.Op r5.2.2.2.2.2.Bound).Args.length+(Atom.mk r5.2.2.2.2.2.Kind r5.2.2.2.2.2.Row r5.2.2.2.2.2.Args r5.2.2.2.2.2.Func r5.2.2.2.2.2.Items r5.2.2.2.2.2.Op r5.2.2.2.2.2.Bound).Items.length)+szTs r5.1) r5.1 r5.2.1 r5.2.2.1 r5.2.2.2.1 r5.2.2.2.2.1 0 (Atom.mk r5.2.2.2.2.2.Kind r5.2.2.2.2.2.Row r5.2.2.2.2.2.Args r5.2.2.2.2.2.Func r5.2.2.2.2.2.Items r5.2.2.2.2.2.Op r5.2.2.2.2.2.Bound)) fun r4=>.h ((r4.1),(if r4.2.2.2.2>r4.2.1 then r4.2.2.2.2 else r4.2.1),(r4.2.2.1),(IntKind.i64.wrap (r4.2.2.2.1+1)),()) ())) .d) .d) (.k (a,most,i))) .d
def zzq (zba:List Term→Bool×Int) (x:zuI) (y:Unit):Wy zuI (Unit) ttTref05Nesting4:=zk2 zba x.1 x.2.1 x.2.2.1 x.2.2.2.1
def zzo (zba:List Term→Bool×Int) (n:Nat) (a:List Term) (most:Int) (i:Int) (k:Int):Bool×ttTref05Nesting4:=zQ (zzq zba) default n (a,most,i,k,()) ()
def zkY (zba:List Term→Bool×Int) (a:List Term) (most:Int) (i:Int):Wy zuL (Unit) (Int):=.i (decide (i<Int.ofNat a.length)) (.bn (zzo zba ((a.length+most.toNat +i.toNat +Int.toNat 0+1)+szTs a) a most i 0) fun r8=>.h ((r8.1),(r8.2.1),(IntKind.i64.wrap (r8.2.2+1)),()) ()) (.k most)
def zy1 (zba:List Term→Bool×Int) (x:zuL) (y:Unit):Wy zuL (Unit) (Int):=zkY zba x.1 x.2.1 x.2.2.1
def zyz (zba:List Term→Bool×Int) (n:Nat) (a:List Term) (most:Int) (i:Int):Bool×Int:=zQ (zy1 zba) default n (a,most,i,()) ()
def zAp (zba:List Term→Bool×Int) (a:List Term):Wy0 (Int):=.bn (zyz zba ((a.length+Int.toNat 0+Int.toNat 0+1)+szTs a) a 0 0) fun r10=>.k r10
def zwU (zba:List Term→Bool×Int) (a:List Term):Bool×Int:=(zAp zba a).fin default
def zHt:Nat→(List Term→Bool×Int)
 | 0=>fun _=>(false,default)
 | n+1=>zwU (zHt n)
def zlr (n:Nat):List Term→Bool×Int:=zHt n
theorem zHj (n:Nat):zlr (n+1)=zwU (zlr n):=rfl
def zGp:List Term→Bool×Int:=zlr 1000
mutual
def zeC:Atom→Nat
 | ⟨_,_,a,_,i,_,_⟩=>zex a+zcJ i
def zbs:List Factor→Nat
 | []=>0
 | ⟨x,_⟩::r=>zeC x+zbs r
def zI:List Term→Nat
 | []=>0
 | ⟨_,fs⟩::r=>1+fs.length+zbs fs+zI r
def zex:List (List Term)→Nat
 | []=>0
 | a::r=>zI a+zex r
def zcJ:List Weighted→Nat
 | []=>0
 | ⟨_,a⟩::r=>1+zI a+zcJ r
end
theorem zf6 (x:Atom):zeC x=zex x.Args+zcJ x.Items:=by cases x; rw [zeC]
theorem zcB (f:Factor) (r:List Factor):zbs (f::r)=zeC f.Atom+zbs r:=by cases f; rw [zbs]
theorem zeV (t:Term) (r:List Term):zI (t::r)=1+t.Factors.length+zbs t.Factors+zI r:=by cases t; rw [zI]
theorem zeq (a:List Term) (r:List (List Term)):zex (a::r)=zI a+zex r:=by rw [zex]
theorem zhe (w:Weighted) (r:List Weighted):zcJ (w::r)=1+zI w.Ann+zcJ r:=by cases w; rw [zcJ]
theorem zfC:zex []=0:=by rw [zex]
theorem zeR:zcJ []=0:=by rw [zcJ]
theorem zhw:zbs []=0:=by rw [zbs]
theorem zqb:zI []=0:=by rw [zI]
theorem zLv (l:List (List Term)):∀ n:Nat,l.foldl (fun s t=>s+zI t) n=n+zex l:=by
 induction l with
 | nil=>intro n; rw [zfC]; rfl
 | cons a r ih=>intro n; rw [List.foldl_cons,ih,zeq]; omega
theorem zJO (l:List Weighted):∀ n:Nat,l.foldl (fun s t=>s+1+zI t.Ann) n=n+zcJ l:=by
 induction l with
 | nil=>intro n; rw [zeR]; rfl
 | cons a r ih=>intro n; rw [List.foldl_cons,ih,zhe]; omega
theorem zNh (l:List Factor):∀ n:Nat,l.foldl (fun s t=>s+zeC t.Atom) n=n+zbs l:=by
 induction l with
 | nil=>intro n; rw [zhw]; rfl
 | cons a r ih=>intro n; rw [List.foldl_cons,ih,zcB]; omega
theorem zNb (l:List Term):∀ n:Nat,l.foldl (fun s t=>s+1+t.Factors.length+zbs t.Factors) n=n+zI l:=by
 induction l with
 | nil=>intro n; rw [zqb]; rfl
 | cons a r ih=>intro n; rw [List.foldl_cons,ih,zeV]; omega
theorem zlK {n m:Nat} (h:n+m≤4611686018427387904):IntKind.i64.wrap ((n:Int)+(m:Int))=((n+m:Nat):Int):=by
 rw [zIX (by omega) (by omega)]; omega
theorem zfB {i:Nat} (h:i<4611686018427387904):IntKind.i64.wrap ((i:Int)+1)=((i+1:Nat):Int):=zM h
section
variable (g:List Term→Bool×Int)
theorem zUM (l:List (List Term)) (hl:l.length≤1000000) (hg:∀ y∈l,g y=(true,(zI y:Int))) (t12:List Term) (t13 t14:Int) (t25:List Factor) (t26 t27:Int) (f:Factor) (fuel n:Nat) (hf:l.length<fuel) (hn:n+zex l≤4611686018427387904):
  zu9 g fuel n t12 t13 t14 t25 t26 t27 l l.length 0 f=(true,(((n+zex l:Nat):Int),t12,t13,t14,t25,t26,t27,f)):=by
 have h:=zcv (W:=zli g) (z:=default) (l:=l) (fun i (n:Nat)=>((n:Int),(),t12,t13,t14,t25,t26,t27,l,(l.length:Int),(i:Int),())) (fun _ _=>(f,())) (fun y n=>.inl (n+zI y)) (fun n=>((n:Int),t12,t13,t14,t25,t26,t27,f)) (fun i n=>n+zex (l.drop i)≤4611686018427387904)
  (fun i n hi hI=>.inl ⟨_,rfl,by rw [zbm hi,zeq] at hI; omega,fun H K D=>by
   rw [zbm hi,zeq] at hI
   show (ziN g n t12 t13 t14 t25 t26 t27 l l.length i f).ev H K D=_
   unfold ziN
   simp only [Wy.ev_i,Wy.ev_k,Wy.ev_h,Wy.ev_bn,Wy.ev_d,tT,hi,hg _ (zp hi)]
   rw [zlK (by omega),zfB (by omega)]⟩)
  (fun n hI H K D=>by
   show (ziN g n t12 t13 t14 t25 t26 t27 l l.length l.length f).ev H K D=_
   unfold ziN
   simp only [Wy.ev_i,Wy.ev_k,tT,Nat.lt_irrefl]) fuel 0 n (by omega) (Nat.zero_le _) (by simpa using hn)
 rw [List.drop_zero,zcw,zLv] at h
 exact h
theorem zUT (l:List Weighted) (hl:l.length≤1000000) (hg:∀ y∈l,g y.Ann=(true,(zI y.Ann:Int))) (t12:List Term) (t13 t14:Int) (t25:List Factor) (t26 t27:Int) (fuel n:Nat) (hf:l.length<fuel) (hn:n+zcJ l≤4611686018427387904):
  zvt g fuel n t12 t13 t14 t25 t26 t27 l l.length 0=(true,(((n+zcJ l:Nat):Int),t12,t13,t14,t25,t26,t27)):=by
 have h:=zcv (W:=zln g) (z:=default) (l:=l) (fun i (n:Nat)=>((n:Int),t12,t13,t14,t25,t26,t27,l,(l.length:Int),(i:Int),())) (fun _ _=>()) (fun y n=>.inl (n+1+zI y.Ann)) (fun n=>((n:Int),t12,t13,t14,t25,t26,t27)) (fun i n=>n+zcJ (l.drop i)≤4611686018427387904)
  (fun i n hi hI=>.inl ⟨_,rfl,by rw [zbm hi,zhe] at hI; omega,fun H K D=>by
   rw [zbm hi,zhe] at hI
   show (ziT g n t12 t13 t14 t25 t26 t27 l l.length i).ev H K D=_
   unfold ziT
   simp only [Wy.ev_i,Wy.ev_k,Wy.ev_h,Wy.ev_bn,Wy.ev_d,tT,hi,hg _ (zp hi)]
   rw [zfB (by omega),show (1:Int)=((1:Nat):Int) from rfl,zlK (by omega),zlK (by omega), ← Nat.add_assoc]⟩)
  (fun n hI H K D=>by
   show (ziT g n t12 t13 t14 t25 t26 t27 l l.length l.length).ev H K D=_
   unfold ziT
   simp only [Wy.ev_i,Wy.ev_k,tT,Nat.lt_irrefl]) fuel 0 n (by omega) (Nat.zero_le _) (by simpa using hn)
 rw [List.drop_zero,zcw,zJO] at h
 exact h
theorem zVI (l:List Factor) (hl:l.length≤1000000) (hg:∀ f∈l,(f.Atom.Args.length≤1000000∧f.Atom.Items.length≤1000000)∧(∀ y∈f.Atom.Args,g y=(true,(zI y:Int)))∧∀ y∈f.Atom.Items,g y.Ann=(true,(zI y.Ann:Int))) (t12:List Term) (t13 t14:Int) (fuel n:Nat) (hf:l.length<fuel) (hn:n+zbs l≤4611686018427387904):
  zvV g fuel n t12 t13 t14 l l.length 0=(true,(((n+zbs l:Nat):Int),t12,t13,t14)):=by
 have h:=zcv (W:=zma g) (z:=default) (l:=l) (fun i (n:Nat)=>((n:Int),t12,t13,t14,l,(l.length:Int),(i:Int),())) (fun _ _=>()) (fun y n=>.inl (n+zeC y.Atom)) (fun n=>((n:Int),t12,t13,t14)) (fun i n=>n+zbs (l.drop i)≤4611686018427387904)
  (fun i n hi hI=>.inl ⟨_,rfl,by rw [zbm hi,zcB] at hI; omega,fun H K D=>by
   rw [zbm hi,zcB,zf6] at hI
   obtain ⟨⟨h1,h2⟩,h3,h4⟩:=hg _ (zp hi)
   show (zjB g n t12 t13 t14 l l.length i).ev H K D=_
   unfold zjB
   simp only [Wy.ev_i,Wy.ev_k,Wy.ev_h,Wy.ev_bn,Wy.ev_d,tT,hi,Atom.eta]
   rw [zUM g _ h1 h3 _ _ _ _ _ _ _ _ _ (by omega) (by omega)]
   simp only [cond_true,Int.toNat_natCast]
   rw [zUT g _ h2 h4 _ _ _ _ _ _ _ _ (by omega) (by omega)]
   simp only [cond_true]
   rw [zfB (by omega),zf6,Nat.add_assoc]⟩)
  (fun n hI H K D=>by
   show (zjB g n t12 t13 t14 l l.length l.length).ev H K D=_
   unfold zjB
   simp only [Wy.ev_i,Wy.ev_k,tT,Nat.lt_irrefl]) fuel 0 n (by omega) (Nat.zero_le _) (by simpa using hn)
 rw [List.drop_zero,zcw,zNh] at h
 exact h
theorem zVu (l:List Term) (hl:l.length≤1000000) (hg:∀ t∈l,t.Factors.length≤1000000∧∀ f∈t.Factors,(f.Atom.Args.length≤1000000∧f.Atom.Items.length≤1000000)∧(∀ y∈f.Atom.Args,g y=(true,(zI y:Int)))∧∀ y∈f.Atom.Items,g y.Ann=(true,(zI y.Ann:Int))) (fuel n:Nat) (hf:l.length<fuel) (hn:n+zI l≤4611686018427387904):
  zv7 g fuel n l l.length 0=(true,((n+zI l:Nat):Int)):=by
 have h:=zcv (W:=zmj g) (z:=default) (l:=l) (fun i (n:Nat)=>((n:Int),l,(l.length:Int),(i:Int),())) (fun _ _=>()) (fun y n=>.inl (n+1+y.Factors.length+zbs y.Factors)) (fun n=>(n:Int)) (fun i n=>n+zI (l.drop i)≤4611686018427387904)
  (fun i n hi hI=>.inl ⟨_,rfl,by rw [zbm hi,zeV] at hI; omega,fun H K D=>by
   rw [zbm hi,zeV] at hI
   obtain ⟨h1,h3⟩:=hg _ (zp hi)
   show (zjv g n l l.length i).ev H K D=_
   unfold zjv
   simp only [Wy.ev_i,Wy.ev_k,Wy.ev_h,Wy.ev_bn,Wy.ev_d,tT,hi,Atom.eta]
   rw [show (1:Int)=((1:Nat):Int) from rfl,zlK (n:=1) (by omega),zlK (by omega)]
   rw [zVI g _ h1 h3 _ _ _ _ _ (by omega) (by omega)]
   simp only [cond_true]
   rw [show ((1:Nat):Int)=(1:Int) from rfl,zfB (by omega),Nat.add_assoc n 1]⟩)
  (fun n hI H K D=>by
   show (zjv g n l l.length l.length).ev H K D=_
   unfold zjv
   simp only [Wy.ev_i,Wy.ev_k,tT,Nat.lt_irrefl]) fuel 0 n (by omega) (Nat.zero_le _) (by simpa using hn)
 rw [List.drop_zero,zcw,zNb] at h
 exact h
theorem zTG (x:Atom) (hl:x.Args.length≤1000000) (hg:∀ y∈x.Args,g y=(true,(zI y:Int))) (a:List Term) (i k:Int) (fuel n:Nat) (hf:x.Args.length<fuel) (hn:n+zex x.Args≤4611686018427387904):
  zBu g fuel a n i k 0 x=(true,(a,((n+zex x.Args:Nat):Int),i,k,x)):=by
 have h:=zcv (W:=zCm g) (z:=default) (l:=x.Args) (fun j (n:Nat)=>(a,(n:Int),i,k,(),(j:Int),())) (fun _ _=>(x,())) (fun y n=>.inl (n+zI y)) (fun n=>(a,(n:Int),i,k,x)) (fun i n=>n+zex (x.Args.drop i)≤4611686018427387904)
  (fun j n hi hI=>.inl ⟨_,rfl,by rw [zbm hi,zeq] at hI; omega,fun H K D=>by
   rw [zbm hi,zeq] at hI
   show (znd g a n i k j x).ev H K D=_
   unfold znd
   simp only [Wy.ev_i,Wy.ev_k,Wy.ev_h,Wy.ev_bn,Wy.ev_d,tT,hi,hg _ (zp hi)]
   rw [zlK (by omega),zfB (by omega)]⟩)
  (fun n hI H K D=>by
   show (znd g a n i k x.Args.length x).ev H K D=_
   unfold znd
   simp only [Wy.ev_i,Wy.ev_k,tT,Nat.lt_irrefl]) fuel 0 n (by omega) (Nat.zero_le _) (by simpa using hn)
 rw [List.drop_zero,zcw,zLv] at h
 exact h
theorem zSL (x:Atom) (hl:x.Items.length≤1000000) (hg:∀ y∈x.Items,g y.Ann=(true,(zI y.Ann:Int))) (a:List Term) (i k:Int) (fuel n:Nat) (hf:x.Items.length<fuel) (hn:n+zcJ x.Items≤4611686018427387904):
  zBJ g fuel a n i k 0 x=(true,(a,((n+zcJ x.Items:Nat):Int),i,k)):=by
 have h:=zcv (W:=zBF g) (z:=default) (l:=x.Items) (fun j (n:Nat)=>(a,(n:Int),i,k,(),(j:Int),())) (fun _ _=>(x,())) (fun y n=>.inl (n+1+zI y.Ann)) (fun n=>(a,(n:Int),i,k)) (fun i n=>n+zcJ (x.Items.drop i)≤4611686018427387904)
  (fun j n hi hI=>.inl ⟨_,rfl,by rw [zbm hi,zhe] at hI; omega,fun H K D=>by
   rw [zbm hi,zhe] at hI
   show (zm2 g a n i k j x).ev H K D=_
   unfold zm2
   simp only [Wy.ev_i,Wy.ev_k,Wy.ev_h,Wy.ev_bn,Wy.ev_d,tT,hi,hg _ (zp hi)]
   rw [zfB (i:=j) (by omega),zfB (i:=n) (by omega),zlK (by omega)]⟩)
  (fun n hI H K D=>by
   show (zm2 g a n i k x.Items.length x).ev H K D=_
   unfold zm2
   simp only [Wy.ev_i,Wy.ev_k,tT,Nat.lt_irrefl]) fuel 0 n (by omega) (Nat.zero_le _) (by simpa using hn)
 rw [List.drop_zero,zcw,zJO] at h
 exact h
theorem zCn:∀ (a:List Term) (i:Nat),i<a.length→(a.getD i default).Factors.length≤szTs a
 | [],i,h=>by simp at h
 | t::r,0,h=>by
  have:∀ l:List Factor,l.length≤szFs l:=fun l=>by
   induction l with
   | nil=>exact Nat.le_refl _
   | cons f r ih=>simp only [szFs,List.length_cons]; omega
  have:=this t.Factors
  simp only [szTs,List.getD_cons_zero]; omega
 | t::r,i+1,h=>by
  have:=zCn r i (by simpa using h)
  simp only [szTs,List.getD_cons_succ]; omega
theorem foldl_factors' (l:List Factor):∀ n:Nat,l.foldl (fun s t=>s+1+zeC t.Atom) n=n+l.length+zbs l:=by
 induction l with
 | nil=>intro n; rw [zhw]; rfl
 | cons a r ih=>intro n; rw [List.foldl_cons,ih,zcB,List.length_cons]; omega
theorem zUR (a:List Term) (i:Nat) (hi:i<a.length) (hla:a.length≤1000000) (l:List Factor) (el:(a.getD i default).Factors=l) (hl:l.length≤1000000) (hg:∀ f∈l,(f.Atom.Args.length≤1000000∧f.Atom.Items.length≤1000000)∧(∀ y∈f.Atom.Args,g y=(true,(zI y:Int)))∧∀ y∈f.Atom.Items,g y.Ann=(true,(zI y.Ann:Int))) (fuel n:Nat) (hf:l.length<fuel) (hn:n+l.length+zbs l≤4611686018427387904):
  zDo g fuel a n i 0=(true,(a,((n+l.length+zbs l:Nat):Int),(i:Int))):=by
 have h:=zcv (W:=zDb g) (z:=default) (l:=l) (fun k (n:Nat)=>(a,(n:Int),(i:Int),(k:Int),())) (fun _ _=>()) (fun y n=>.inl (n+1+zeC y.Atom)) (fun n=>(a,(n:Int),(i:Int))) (fun k n=>n+(l.drop k).length+zbs (l.drop k)≤4611686018427387904)
  (fun k n hk hI=>.inl ⟨_,rfl,by rw [zbm hk,zcB,List.length_cons] at hI; omega,fun H K D=>by
   rw [zbm hk,zcB,zf6,List.length_cons] at hI
   obtain ⟨⟨h1,h2⟩,h3,h4⟩:=hg _ (zp hk)
   show (zn6 g a n i k).ev H K D=_
   unfold zn6
   simp only [Wy.ev_i,Wy.ev_k,Wy.ev_h,Wy.ev_bn,Wy.ev_d,tT,hi,el,hk,Atom.eta]
   rw [zfB (i:=n) (by omega)]
   rw [zTG g _ h1 h3 _ _ _ _ _ (by omega) (by omega)]
   simp only [cond_true,Int.toNat_natCast,Atom.eta]
   rw [zSL g _ h2 h4 _ _ _ _ _ (by omega) (by omega)]
   simp only [cond_true]
   rw [zfB (by omega),zf6,Nat.add_assoc (n+1)]⟩)
  (fun n hI H K D=>by
   show (zn6 g a n i l.length).ev H K D=_
   unfold zn6
   simp only [Wy.ev_i,Wy.ev_k,tT,hi,el,Nat.lt_irrefl]) fuel 0 n (by omega) (Nat.zero_le _) (by simpa using hn)
 rw [List.drop_zero,zcw,foldl_factors'] at h
 exact h
theorem zUX (l:List Term) (hl:l.length≤1000000) (hg:∀ t∈l,t.Factors.length≤1000000∧∀ f∈t.Factors,(f.Atom.Args.length≤1000000∧f.Atom.Items.length≤1000000)∧(∀ y∈f.Atom.Args,g y=(true,(zI y:Int)))∧∀ y∈f.Atom.Items,g y.Ann=(true,(zI y.Ann:Int))) (fuel n:Nat) (hf:l.length<fuel) (hn:n+zI l≤4611686018427387904):
  zC9 g fuel l n 0=(true,((n+zI l:Nat):Int)):=by
 have h:=zcv (W:=zC7 g) (z:=default) (l:=l) (fun i (n:Nat)=>(l,(n:Int),(i:Int),())) (fun _ _=>()) (fun y n=>.inl (n+1+y.Factors.length+zbs y.Factors)) (fun n=>(n:Int)) (fun i n=>n+zI (l.drop i)≤4611686018427387904)
  (fun i n hi hI=>.inl ⟨_,rfl,by rw [zbm hi,zeV] at hI; omega,fun H K D=>by
   rw [zbm hi,zeV] at hI
   obtain ⟨h1,h3⟩:=hg _ (zp hi)
   have hz:=zCn l i hi
   show (zoa g l n i).ev H K D=_
   unfold zoa
   simp only [Wy.ev_i,Wy.ev_k,Wy.ev_h,Wy.ev_bn,Wy.ev_d,tT,hi,Atom.eta]
   rw [zfB (i:=n) (by omega)]
   rw [zUR g l i hi hl _ rfl h1 h3 _ _ (by omega) (by omega)]
   simp only [cond_true]
   rw [zfB (by omega)]⟩)
  (fun n hI H K D=>by
   show (zoa g l n l.length).ev H K D=_
   unfold zoa
   simp only [Wy.ev_i,Wy.ev_k,tT,Nat.lt_irrefl]) fuel 0 n (by omega) (Nat.zero_le _) (by simpa using hn)
 rw [List.drop_zero,zcw,zNb] at h
 exact h
end
theorem zPs {l:List (List Term)} {y:List Term} (h:y∈l):zI y≤zex l:=by
 induction l with
 | nil=>cases h
 | cons a r ih=>
  rw [zeq]
  rcases List.mem_cons.1 h with rfl | h
  ·omega
  ·have:=ih h; omega
theorem zNH {l:List Weighted} {y:Weighted} (h:y∈l):zI y.Ann≤zcJ l:=by
 induction l with
 | nil=>cases h
 | cons a r ih=>
  rw [zhe]
  rcases List.mem_cons.1 h with rfl | h
  ·omega
  ·have:=ih h; omega
theorem zEZ {l:List Factor} {y:Factor} (h:y∈l):zeC y.Atom≤zbs l:=by
 induction l with
 | nil=>cases h
 | cons a r ih=>
  rw [zcB]
  rcases List.mem_cons.1 h with rfl | h
  ·omega
  ·have:=ih h; omega
theorem zQR {l:List Term} {y:Term} (h:y∈l):zbs y.Factors≤zI l:=by
 induction l with
 | nil=>cases h
 | cons a r ih=>
  rw [zeV]
  rcases List.mem_cons.1 h with rfl | h
  ·omega
  ·have:=ih h; omega
theorem zMc {a:List Term} {t:Term} {f:Factor} (ht:t∈a) (hf:f∈t.Factors):zex f.Atom.Args+zcJ f.Atom.Items≤zI a:=by
 have h1:=zQR ht; have h2:=zEZ hf; rw [zf6] at h2; omega
theorem zD5 {d:Nat} {a:List Term} (h:zm (d+1) a) {t:Term} (ht:t∈a):t.Factors.length≤1000000∧∀ f∈t.Factors,(f.Atom.Args.length≤1000000∧f.Atom.Items.length≤1000000)∧(∀ y∈f.Atom.Args,zm d y)∧∀ y∈f.Atom.Items,zm d y.Ann:=
 ⟨(h.2 t ht).1,fun f hf=>have q:=(h.2 t ht).2 f hf; ⟨⟨q.1.1,q.1.2.1⟩,q.2.1,fun y hy=>(q.2.2 y hy).2⟩⟩
theorem zJS:∀ (n d:Nat) (a:List Term),zm d a→d≤n→zI a≤4611686018427387904→zjK n a=(true,(zI a:Int))∧zsH n a=(true,(zI a:Int))
 | n,0,a,h,hd,hs=>h.elim
 | 0,d+1,a,h,hd,hs=>by omega
 | n+1,d+1,a,h,hd,hs=>by
  have hg:=fun y (hy:zm d y) (hs:zI y≤4611686018427387904)=>zJS n d y hy (by omega) hs
  have hsub:∀ t∈a,t.Factors.length≤1000000∧∀ f∈t.Factors,(f.Atom.Args.length≤1000000∧f.Atom.Items.length≤1000000)∧(∀ y∈f.Atom.Args,zm d y∧zI y≤4611686018427387904)∧∀ y∈f.Atom.Items,zm d y.Ann∧zI y.Ann≤4611686018427387904:=fun t ht=>by
   obtain ⟨h1,h2⟩:=zD5 h ht
   refine ⟨h1,fun f hf=> ?_⟩
   obtain ⟨h3,h4,h5⟩:=h2 f hf
   have h6:=zMc ht hf
   exact ⟨h3,fun y hy=>⟨h4 y hy,by have:=zPs hy; omega⟩,fun y hy=>⟨h5 y hy,by have:=zNH hy; omega⟩⟩
  constructor
  ·rw [zFB]
   unfold zoY zq6
   have h1:=zVu (zjK n) a h.1 (fun t ht=>⟨(hsub t ht).1,fun f hf=>⟨((hsub t ht).2 f hf).1,fun y hy=>(hg y (((hsub t ht).2 f hf).2.1 y hy).1 (((hsub t ht).2 f hf).2.1 y hy).2).1,fun y hy=>(hg _ (((hsub t ht).2 f hf).2.2 y hy).1 (((hsub t ht).2 f hf).2.2 y hy).2).1⟩⟩)
    (Int.toNat 0+a.length+(Int.ofNat a.length).toNat +Int.toNat 0+1) 0 (by omega) (by omega)
   rw [show ((0:Nat):Int)=(0:Int) from rfl,Nat.zero_add] at h1
   rw [Wy.fin_bn,show Int.ofNat a.length=(a.length:Int) from rfl] at *
   rw [h1]; rfl
  ·rw [zLh]
   unfold zCv zEa
   have h1:=zUX (zsH n) a h.1 (fun t ht=>⟨(hsub t ht).1,fun f hf=>⟨((hsub t ht).2 f hf).1,fun y hy=>(hg y (((hsub t ht).2 f hf).2.1 y hy).1 (((hsub t ht).2 f hf).2.1 y hy).2).2,fun y hy=>(hg _ (((hsub t ht).2 f hf).2.2 y hy).1 (((hsub t ht).2 f hf).2.2 y hy).2).2⟩⟩)
    (a.length+Int.toNat 0+Int.toNat 0+1+szTs a) 0 (by omega) (by omega)
   rw [show ((0:Nat):Int)=(0:Int) from rfl,Nat.zero_add] at h1
   rw [Wy.fin_bn,h1]; rfl
mutual
def zlw:Atom→Nat
 | ⟨k,_,a,_,i,_,_⟩=>if k=0 then 0 else 1+max (zkx a) (zjm i)
def zcR:List Factor→Nat
 | []=>0
 | ⟨x,_⟩::r=>max (zlw x) (zcR r)
def zbh:List Term→Nat
 | []=>0
 | ⟨_,fs⟩::r=>max (zcR fs) (zbh r)
def zkx:List (List Term)→Nat
 | []=>0
 | a::r=>max (zbh a) (zkx r)
def zjm:List Weighted→Nat
 | []=>0
 | ⟨_,a⟩::r=>max (zbh a) (zjm r)
end
theorem zvX (x:Atom):zlw x=if x.Kind=0 then 0 else 1+max (zkx x.Args) (zjm x.Items):=by cases x; rw [zlw]
theorem zil (f:Factor) (r:List Factor):zcR (f::r)=max (zlw f.Atom) (zcR r):=by cases f; rw [zcR]
theorem zq4 (t:Term) (r:List Term):zbh (t::r)=max (zcR t.Factors) (zbh r):=by cases t; rw [zbh]
theorem zwh (a:List Term) (r:List (List Term)):zkx (a::r)=max (zbh a) (zkx r):=by rw [zkx]
theorem zuz (w:Weighted) (r:List Weighted):zjm (w::r)=max (zbh w.Ann) (zjm r):=by cases w; rw [zjm]
theorem zDK:zkx []=0:=by rw [zkx]
theorem zBy:zjm []=0:=by rw [zjm]
theorem zmK:zcR []=0:=by rw [zcR]
theorem zA1:zbh []=0:=by rw [zbh]
theorem zQF (l:List (List Term)):∀ n:Nat,l.foldl (fun s t=>max s (zbh t)) n=max n (zkx l):=by
 induction l with
 | nil=>intro n; rw [zDK]; exact (Nat.max_zero n).symm
 | cons a r ih=>intro n; rw [List.foldl_cons,ih,zwh]; omega
theorem zPu (l:List Weighted):∀ n:Nat,l.foldl (fun s t=>max s (zbh t.Ann)) n=max n (zjm l):=by
 induction l with
 | nil=>intro n; rw [zBy]; exact (Nat.max_zero n).symm
 | cons a r ih=>intro n; rw [List.foldl_cons,ih,zuz]; omega
theorem zPH (l:List (List Term)):∀ n:Nat,l.foldl (fun s t=>max s (1+zbh t)) (1+n)=1+max n (zkx l):=by
 induction l with
 | nil=>intro n; rw [zDK]; simp
 | cons a r ih=>intro n; rw [List.foldl_cons,show max (1+n) (1+zbh a)=1+max n (zbh a) by omega,ih,zwh]; omega
theorem zOw (l:List Weighted):∀ n:Nat,l.foldl (fun s t=>max s (1+zbh t.Ann)) (1+n)=1+max n (zjm l):=by
 induction l with
 | nil=>intro n; rw [zBy]; simp
 | cons a r ih=>intro n; rw [List.foldl_cons,show max (1+n) (1+zbh a.Ann)=1+max n (zbh a.Ann) by omega,ih,zuz]; omega
theorem zGd (l:List Factor):∀ n:Nat,l.foldl (fun s t=>max s (zlw t.Atom)) n=max n (zcR l):=by
 induction l with
 | nil=>intro n; rw [zmK]; exact (Nat.max_zero n).symm
 | cons a r ih=>intro n; rw [List.foldl_cons,ih,zil]; omega
theorem zM3 (l:List Term):∀ n:Nat,l.foldl (fun s t=>max s (zcR t.Factors)) n=max n (zbh l):=by
 induction l with
 | nil=>intro n; rw [zA1]; exact (Nat.max_zero n).symm
 | cons a r ih=>intro n; rw [List.foldl_cons,ih,zq4]; omega
theorem zIM (a b:Nat):(if (a:Int)>(b:Int) then (a:Int) else (b:Int))=((max b a:Nat):Int):=by split <;>omega
theorem zKX {d:Nat}:∀ l:List (List Term),(∀ y∈l,zbh y≤d)→zkx l≤d:=fun l=>by
 induction l with
 | nil=>intro _; rw [zDK]; omega
 | cons y r ih=>intro hy; rw [zwh]; have h1:=hy y (by simp); have h2:=ih fun z hz=>hy z (by simp [hz]); omega
theorem zJK {d:Nat}:∀ l:List Weighted,(∀ y∈l,zbh y.Ann≤d)→zjm l≤d:=fun l=>by
 induction l with
 | nil=>intro _; rw [zBy]; omega
 | cons y r ih=>intro hy; rw [zuz]; have h1:=hy y (by simp); have h2:=ih fun z hz=>hy z (by simp [hz]); omega
theorem zNs {d:Nat}:∀ l:List Factor,(∀ y∈l,zlw y.Atom≤d)→zcR l≤d:=fun l=>by
 induction l with
 | nil=>intro _; rw [zmK]; omega
 | cons y r ih=>intro hy; rw [zil]; have h1:=hy y (by simp); have h2:=ih fun z hz=>hy z (by simp [hz]); omega
theorem zRO {d:Nat}:∀ l:List Term,(∀ y∈l,zcR y.Factors≤d)→zbh l≤d:=fun l=>by
 induction l with
 | nil=>intro _; rw [zA1]; omega
 | cons y r ih=>intro hy; rw [zq4]; have h1:=hy y (by simp); have h2:=ih fun z hz=>hy z (by simp [hz]); omega
theorem zFi:∀ (d:Nat) (a:List Term),zm d a→zbh a≤d
 | 0,a,h=>h.elim
 | d+1,a,h=>zRO a fun t ht=>zNs _ fun f hf=>by
  obtain ⟨_,h2⟩:=zD5 h ht
  obtain ⟨_,h4,h5⟩:=h2 f hf
  have q1:=zKX f.Atom.Args fun y hy=>zFi d y (h4 y hy)
  have q2:=zJK f.Atom.Items fun y hy=>zFi d y.Ann (h5 y hy)
  rw [zvX]; split <;>omega
section
variable (g:List Term→Bool×Int)
theorem zVh (l:List (List Term)) (hl:l.length≤1000000) (hg:∀ y∈l,g y=(true,(zbh y:Int))) (nn:Int) (t13:List Term) (t14 t15:Int) (t20:List Factor) (t21 t22:Int) (f:Factor) (fuel n:Nat) (hf:l.length<fuel):
  zsJ g fuel nn n t13 t14 t15 t20 t21 t22 l l.length 0 f=(true,(nn,((max n (zkx l):Nat):Int),t13,t14,t15,t20,t21,t22,f)):=by
 have h:=zcv (W:=zjd g) (z:=default) (l:=l) (fun i (n:Nat)=>(nn,(),(n:Int),t13,t14,t15,t20,t21,t22,l,(l.length:Int),(i:Int),())) (fun _ _=>(f,())) (fun y n=>.inl (max n (zbh y))) (fun n=>(nn,(n:Int),t13,t14,t15,t20,t21,t22,f)) (fun i n=>True)
  (fun i n hi hI=>.inl ⟨_,rfl,trivial,fun H K D=>by
   show (zg4 g nn n t13 t14 t15 t20 t21 t22 l l.length i f).ev H K D=_
   unfold zg4
   simp only [Wy.ev_i,Wy.ev_k,Wy.ev_h,Wy.ev_bn,Wy.ev_d,tT,hi,hg _ (zp hi),zIM]
   rw [zfB (by omega)]⟩)
  (fun n hI H K D=>by
   show (zg4 g nn n t13 t14 t15 t20 t21 t22 l l.length l.length f).ev H K D=_
   unfold zg4
   simp only [Wy.ev_i,Wy.ev_k,tT,Nat.lt_irrefl]) fuel 0 n (by omega) (Nat.zero_le _) trivial
 rw [List.drop_zero,zcw,zQF] at h
 exact h
theorem zVs (l:List Weighted) (hl:l.length≤1000000) (hg:∀ y∈l,g y.Ann=(true,(zbh y.Ann:Int))) (nn:Int) (t13:List Term) (t14 t15:Int) (t20:List Factor) (t21 t22:Int) (fuel n:Nat) (hf:l.length<fuel):
  zr9 g fuel nn n t13 t14 t15 t20 t21 t22 l l.length 0=(true,(nn,((max n (zjm l):Nat):Int),t13,t14,t15,t20,t21,t22)):=by
 have h:=zcv (W:=zjr g) (z:=default) (l:=l) (fun i (n:Nat)=>(nn,(n:Int),t13,t14,t15,t20,t21,t22,l,(l.length:Int),(i:Int),())) (fun _ _=>()) (fun y n=>.inl (max n (zbh y.Ann))) (fun n=>(nn,(n:Int),t13,t14,t15,t20,t21,t22)) (fun i n=>True)
  (fun i n hi hI=>.inl ⟨_,rfl,trivial,fun H K D=>by
   show (zgP g nn n t13 t14 t15 t20 t21 t22 l l.length i).ev H K D=_
   unfold zgP
   simp only [Wy.ev_i,Wy.ev_k,Wy.ev_h,Wy.ev_bn,Wy.ev_d,tT,hi,hg _ (zp hi),zIM]
   rw [zfB (by omega)]⟩)
  (fun n hI H K D=>by
   show (zgP g nn n t13 t14 t15 t20 t21 t22 l l.length l.length).ev H K D=_
   unfold zgP
   simp only [Wy.ev_i,Wy.ev_k,tT,Nat.lt_irrefl]) fuel 0 n (by omega) (Nat.zero_le _) trivial
 rw [List.drop_zero,zcw,zPu] at h
 exact h
def NesG (x:Atom):Prop:=(x.Args.length≤1000000∧x.Items.length≤1000000)∧(zlw x≤1000∧(∀ y∈x.Args,zbh y≤1000)∧∀ y∈x.Items,zbh y.Ann≤1000)∧(∀ y∈x.Args,g y=(true,(zbh y:Int)))∧∀ y∈x.Items,g y.Ann=(true,(zbh y.Ann:Int))
theorem zWi (l:List Factor) (hl:l.length≤1000000) (hg:∀ f∈l,NesG g f.Atom) (t13:List Term) (t14 t15:Int) (fuel n:Nat) (hf:l.length<fuel):
  ztl g fuel n t13 t14 t15 l l.length 0=(true,(((max n (zcR l):Nat):Int),t13,t14,t15)):=by
 have h:=zcv (W:=zka g) (z:=default) (l:=l) (fun i (n:Nat)=>((n:Int),t13,t14,t15,l,(l.length:Int),(i:Int),())) (fun _ _=>()) (fun y n=>.inl (max n (zlw y.Atom))) (fun n=>((n:Int),t13,t14,t15)) (fun i n=>True)
  (fun i n hi hI=>.inl ⟨_,rfl,trivial,fun H K D=>by
   obtain ⟨⟨h1,h2⟩,⟨h5,_,_⟩,h3,h4⟩:=hg _ (zp hi)
   show (zhW g n t13 t14 t15 l l.length i).ev H K D=_
   unfold zhW
   simp only [Wy.ev_i,Wy.ev_k,Wy.ev_h,Wy.ev_bn,Wy.ev_d,tT,hi,Atom.eta]
   generalize l.getD i default=f at *
   rw [zvX] at h5 ⊢
   by_cases hk:f.Atom.Kind=0
   ·have e:(f.Atom.Kind==0)=true:=by simp [hk]
    simp only [e,cond_true]
    rw [if_pos hk,Nat.max_zero,zfB (by omega)]
   ·have e:(f.Atom.Kind==0)=false:=by simp [hk]
    simp only [e,cond_false]
    rw [if_neg hk] at h5 ⊢
    have q:=fun fuel hf=>zVh g _ h1 h3 n t13 t14 t15 l l.length i f fuel 0 hf
    rw [Nat.zero_max,show ((0:Nat):Int)=(0:Int) from rfl] at q
    rw [q _ (by omega)]
    simp only [cond_true,Int.toNat_natCast]
    rw [zVs g _ h2 h4 n t13 t14 t15 l l.length i _ _ (by omega)]
    simp only [cond_true]
    rw [zfB (by omega),show (1:Int)=((1:Nat):Int) from rfl,zlK (n:=1) (by omega),zIM]⟩)
  (fun n hI H K D=>by
   show (zhW g n t13 t14 t15 l l.length l.length).ev H K D=_
   unfold zhW
   simp only [Wy.ev_i,Wy.ev_k,tT,Nat.lt_irrefl]) fuel 0 n (by omega) (Nat.zero_le _) trivial
 rw [List.drop_zero,zcw,zGd] at h
 exact h
theorem zWn (l:List Term) (hl:l.length≤1000000) (hg:∀ t∈l,t.Factors.length≤1000000∧∀ f∈t.Factors,NesG g f.Atom) (fuel n:Nat) (hf:l.length<fuel):
  zty g fuel n l l.length 0=(true,((max n (zbh l):Nat):Int)):=by
 have h:=zcv (W:=zj6 g) (z:=default) (l:=l) (fun i (n:Nat)=>((n:Int),l,(l.length:Int),(i:Int),())) (fun _ _=>()) (fun y n=>.inl (max n (zcR y.Factors))) (fun n=>(n:Int)) (fun i n=>True)
  (fun i n hi hI=>.inl ⟨_,rfl,trivial,fun H K D=>by
   obtain ⟨h1,h3⟩:=hg _ (zp hi)
   show (zh0 g n l l.length i).ev H K D=_
   unfold zh0
   simp only [Wy.ev_i,Wy.ev_k,Wy.ev_h,Wy.ev_bn,Wy.ev_d,tT,hi,Atom.eta]
   rw [zWi g _ h1 h3 _ _ _ _ _ (by omega)]
   simp only [cond_true]
   rw [zfB (by omega)]⟩)
  (fun n hI H K D=>by
   show (zh0 g n l l.length l.length).ev H K D=_
   unfold zh0
   simp only [Wy.ev_i,Wy.ev_k,tT,Nat.lt_irrefl]) fuel 0 n (by omega) (Nat.zero_le _) trivial
 rw [List.drop_zero,zcw,zM3] at h
 exact h
theorem zUG (x:Atom) (hx:NesG g x) (a:List Term) (most i k:Int) (fuel n:Nat) (hf:x.Args.length<fuel):
  zq5 g fuel a most i k ((1+n:Nat):Int) 0 x=(true,(a,most,i,k,((1+max n (zkx x.Args):Nat):Int),x)):=by
 obtain ⟨⟨h1,h2⟩,⟨h5,h6,h7⟩,h3,h4⟩:=hx
 have h:=zcv (W:=zxk g) (z:=default) (l:=x.Args) (fun j (n:Nat)=>(a,most,i,k,(),(n:Int),(j:Int),())) (fun _ _=>(x,())) (fun y n=>.inl (max n (1+zbh y))) (fun n=>(a,most,i,k,(n:Int),x)) (fun i n=>True)
  (fun j n hi hI=>.inl ⟨_,rfl,trivial,fun H K D=>by
   have h8:=h6 _ (zp hi)
   show (zkg g a most i k n j x).ev H K D=_
   unfold zkg
   simp only [Wy.ev_i,Wy.ev_k,Wy.ev_h,Wy.ev_bn,Wy.ev_d,tT,hi,h3 _ (zp hi)]
   rw [zfB (by omega),show (1:Int)=((1:Nat):Int) from rfl,zlK (n:=1) (by omega),zIM]⟩)
  (fun n hI H K D=>by
   show (zkg g a most i k n x.Args.length x).ev H K D=_
   unfold zkg
   simp only [Wy.ev_i,Wy.ev_k,tT,Nat.lt_irrefl]) fuel 0 (1+n) (by omega) (Nat.zero_le _) trivial
 rw [List.drop_zero,zcw,zPH] at h
 exact h
theorem zT9 (x:Atom) (hx:NesG g x) (a:List Term) (most i k:Int) (fuel n:Nat) (hf:x.Items.length<fuel):
  zxj g fuel a most i k ((1+n:Nat):Int) 0 x=(true,(a,most,i,k,((1+max n (zjm x.Items):Nat):Int))):=by
 obtain ⟨⟨h1,h2⟩,⟨h5,h6,h7⟩,h3,h4⟩:=hx
 have h:=zcv (W:=zxl g) (z:=default) (l:=x.Items) (fun j (n:Nat)=>(a,most,i,k,(),(n:Int),(j:Int),())) (fun _ _=>(x,())) (fun y n=>.inl (max n (1+zbh y.Ann))) (fun n=>(a,most,i,k,(n:Int))) (fun i n=>True)
  (fun j n hi hI=>.inl ⟨_,rfl,trivial,fun H K D=>by
   have h8:=h7 _ (zp hi)
   show (zkd g a most i k n j x).ev H K D=_
   unfold zkd
   simp only [Wy.ev_i,Wy.ev_k,Wy.ev_h,Wy.ev_bn,Wy.ev_d,tT,hi,h4 _ (zp hi)]
   rw [zfB (by omega),show (1:Int)=((1:Nat):Int) from rfl,zlK (n:=1) (by omega),zIM]⟩)
  (fun n hI H K D=>by
   show (zkd g a most i k n x.Items.length x).ev H K D=_
   unfold zkd
   simp only [Wy.ev_i,Wy.ev_k,tT,Nat.lt_irrefl]) fuel 0 (1+n) (by omega) (Nat.zero_le _) trivial
 rw [List.drop_zero,zcw,zOw] at h
 exact h
theorem RNes_12' (x:Atom) (hx:NesG g x) (a:List Term) (most i k:Int) (fuel:Nat) (hf:x.Args.length<fuel):zq5 g fuel a most i k 1 0 x=(true,(a,most,i,k,((1+zkx x.Args:Nat):Int),x)):=by
 have h:=zUG g x hx a most i k fuel 0 hf
 rw [Nat.zero_max] at h; exact h
theorem zVQ (a:List Term) (i:Nat) (hi:i<a.length) (hla:a.length≤1000000) (l:List Factor) (el:(a.getD i default).Factors=l) (hl:l.length≤1000000) (hg:∀ f∈l,NesG g f.Atom) (fuel n:Nat) (hf:l.length<fuel):
  zzo g fuel a n i 0=(true,(a,((max n (zcR l):Nat):Int),(i:Int))):=by
 have h:=zcv (W:=zzq g) (z:=default) (l:=l) (fun k (n:Nat)=>(a,(n:Int),(i:Int),(k:Int),())) (fun _ _=>()) (fun y n=>.inl (max n (zlw y.Atom))) (fun n=>(a,(n:Int),(i:Int))) (fun k n=>True)
  (fun k n hk hI=>.inl ⟨_,rfl,trivial,fun H K D=>by
   have hx:=hg _ (zp hk)
   have h5:=hx.2.1.1
   show (zk2 g a n i k).ev H K D=_
   unfold zk2
   simp only [Wy.ev_i,Wy.ev_k,Wy.ev_h,Wy.ev_bn,Wy.ev_d,tT,hi,el,hk,Atom.eta]
   generalize l.getD k default=f at *
   rw [zvX] at h5 ⊢
   by_cases hz:f.Atom.Kind=0
   ·have e:(f.Atom.Kind==0)=true:=by simp [hz]
    simp only [e,cond_true]
    rw [if_pos hz,Nat.max_zero,zfB (by omega)]
   ·have e:(f.Atom.Kind==0)=false:=by simp [hz]
    have hx1:=hx.1
    simp only [e,cond_false]
    rw [if_neg hz] at h5 ⊢
    rw [RNes_12' g _ hx _ _ _ _ _ (by omega)]
    simp only [cond_true,Int.toNat_natCast,Atom.eta]
    rw [zT9 g _ hx _ _ _ _ _ _ (by omega)]
    simp only [cond_true]
    rw [zfB (by omega),zIM]⟩)
  (fun n hI H K D=>by
   show (zk2 g a n i l.length).ev H K D=_
   unfold zk2
   simp only [Wy.ev_i,Wy.ev_k,tT,hi,el,Nat.lt_irrefl]) fuel 0 n (by omega) (Nat.zero_le _) trivial
 rw [List.drop_zero,zcw,zGd] at h
 exact h
theorem zVk (l:List Term) (hl:l.length≤1000000) (hg:∀ t∈l,t.Factors.length≤1000000∧∀ f∈t.Factors,NesG g f.Atom) (fuel n:Nat) (hf:l.length<fuel):
  zyz g fuel l n 0=(true,((max n (zbh l):Nat):Int)):=by
 have h:=zcv (W:=zy1 g) (z:=default) (l:=l) (fun i (n:Nat)=>(l,(n:Int),(i:Int),())) (fun _ _=>()) (fun y n=>.inl (max n (zcR y.Factors))) (fun n=>(n:Int)) (fun i n=>True)
  (fun i n hi hI=>.inl ⟨_,rfl,trivial,fun H K D=>by
   obtain ⟨h1,h3⟩:=hg _ (zp hi)
   have hz:=zCn l i hi
   show (zkY g l n i).ev H K D=_
   unfold zkY
   simp only [Wy.ev_i,Wy.ev_k,Wy.ev_h,Wy.ev_bn,Wy.ev_d,tT,hi,Atom.eta]
   rw [zVQ g l i hi hl _ rfl h1 h3 _ _ (by omega)]
   simp only [cond_true]
   rw [zfB (by omega)]⟩)
  (fun n hI H K D=>by
   show (zkY g l n l.length).ev H K D=_
   unfold zkY
   simp only [Wy.ev_i,Wy.ev_k,tT,Nat.lt_irrefl]) fuel 0 n (by omega) (Nat.zero_le _) trivial
 rw [List.drop_zero,zcw,zM3] at h
 exact h
end
theorem zLN:∀ (n d:Nat) (a:List Term),zm d a→d≤n→d≤100→zff n a=(true,(zbh a:Int))∧zlr n a=(true,(zbh a:Int))
 | n,0,a,h,hd,hs=>h.elim
 | 0,d+1,a,h,hd,hs=>by omega
 | n+1,d+1,a,h,hd,hs=>by
  have hg:=fun y (hy:zm d y)=>zLN n d y hy (by omega) (by omega)
  have hsub:∀ t∈a,t.Factors.length≤1000000∧∀ f∈t.Factors,NesG (zff n) f.Atom∧NesG (zlr n) f.Atom:=fun t ht=>by
   obtain ⟨h1,h2⟩:=zD5 h ht
   refine ⟨h1,fun f hf=> ?_⟩
   obtain ⟨h3,h4,h5⟩:=h2 f hf
   have q1:∀ y∈f.Atom.Args,zbh y≤d:=fun y hy=>zFi d y (h4 y hy)
   have q2:∀ y∈f.Atom.Items,zbh y.Ann≤d:=fun y hy=>zFi d y.Ann (h5 y hy)
   have q3:zlw f.Atom≤1000:=by
    have r1:=zKX _ q1; have r2:=zJK _ q2
    rw [zvX]; split <;>omega
   have q4:zlw f.Atom≤1000∧(∀ y∈f.Atom.Args,zbh y≤1000)∧∀ y∈f.Atom.Items,zbh y.Ann≤1000:=⟨q3,fun y hy=>by have:=q1 y hy; omega,fun y hy=>by have:=q2 y hy; omega⟩
   exact ⟨⟨h3,q4,fun y hy=>(hg y (h4 y hy)).1,fun y hy=>(hg _ (h5 y hy)).1⟩,⟨h3,q4,fun y hy=>(hg y (h4 y hy)).2,fun y hy=>(hg _ (h5 y hy)).2⟩⟩
  constructor
  ·rw [zCF]
   unfold zl8 zoA
   have h1:=zWn (zff n) a h.1 (fun t ht=>⟨(hsub t ht).1,fun f hf=>((hsub t ht).2 f hf).1⟩) (Int.toNat 0+a.length+(Int.ofNat a.length).toNat +Int.toNat 0+1) 0 (by omega)
   rw [show ((0:Nat):Int)=(0:Int) from rfl,Nat.zero_max] at h1
   rw [Wy.fin_bn,show Int.ofNat a.length=(a.length:Int) from rfl] at *
   rw [h1]; rfl
  ·rw [zHj]
   unfold zwU zAp
   have h1:=zVk (zlr n) a h.1 (fun t ht=>⟨(hsub t ht).1,fun f hf=>((hsub t ht).2 f hf).2⟩) (a.length+Int.toNat 0+Int.toNat 0+1+szTs a) 0 (by omega)
   rw [show ((0:Nat):Int)=(0:Int) from rfl,Nat.zero_max] at h1
   rw [Wy.fin_bn,h1]; rfl
theorem zsg (x y:Int):zep x y=(true,cmpI x y):=by
 unfold zep ztJ zn0 zwW cmpI
 by_cases h1:x<y
 ·simp [h1,Wy.fin_i,Wy.fin_k]
 ·by_cases h2:y<x <;>simp [h1,h2,Wy.fin_i,Wy.fin_k]
theorem zqa (x y:Int):zh4 x y=(true,cmpI x y):=by
 unfold zh4 zrf zlk ztM cmpI
 by_cases h1:x<y
 ·simp [h1,Wy.fin_i,Wy.fin_k]
 ·by_cases h2:y<x <;>simp [h1,h2,Wy.fin_i,Wy.fin_k]
def zpc:List Int→Int
 | []=>0
 | x::r=>if x=0 then zpc r else x
theorem zQs (l:List Int) (hl:l.length≤1000000):∀ (n i:Nat),l.length<i+n→i≤l.length→∃ r,zzG n 0 l l.length i=(true,r)∧(r=.inl (zpc (l.drop i))∨(r=.inr 0∧zpc (l.drop i)=0))
 | 0,i,h,h2=>by omega
 | n+1,i,h,h2=>by
  show ∃ r,(zz6 0 l l.length i).ev (fun x y=>zzG n x.1 x.2.1 x.2.2.1 x.2.2.2.1) (fun r=>(true,r)) (false,.inl default)=(true,r)∧_
  unfold zz6
  by_cases hi:i<l.length
  ·simp only [Wy.ev_i,Wy.ev_k,Wy.ev_h,Int.ofNat_eq_natCast,zut,zez,decide_true,decide_false,Bool.and_self,Bool.true_and,Bool.and_true,cond_true,cond_false,Int.toNat_natCast,Bool.not_true,Bool.not_false,hi]
   obtain ⟨r,h1,h3⟩:=zQs l hl n (i+1) (by omega) (by omega)
   rw [zbm hi,zM (by omega),h1]
   generalize l.getD i default=x
   by_cases hx:x=0
   ·have e:(x != 0)=false:=by simp [hx]
    simp only [e,cond_false,zpc,hx,if_true]
    exact ⟨r,rfl,h3⟩
   ·have e:(x != 0)=true:=by simp [hx]
    simp only [e,cond_true,zpc,hx,if_false]
    exact ⟨_,rfl,.inl rfl⟩
  ·simp only [Wy.ev_i,Wy.ev_k,Wy.ev_h,Int.ofNat_eq_natCast,zut,zez,decide_true,decide_false,Bool.and_self,Bool.true_and,Bool.and_true,cond_true,cond_false,Int.toNat_natCast,Bool.not_true,Bool.not_false,hi,zcE hi]
   exact ⟨_,rfl,.inr ⟨rfl,rfl⟩⟩
theorem zqM (l:List Int) (hl:l.length≤1000000):zl7 l=(true,zpc l):=by
 unfold zl7 zBE
 obtain ⟨r,h1,h2⟩:=zQs l hl (Int.toNat 0+l.length+(Int.ofNat l.length).toNat +Int.toNat 0+1) 0 (by simp; omega) (by omega)
 rw [show ((0:Nat):Int)=(0:Int) from rfl] at h1
 rw [Wy.fin_bn,show Int.ofNat l.length=(l.length:Int) from rfl] at *
 rw [h1]
 rw [List.drop_zero] at h2
 rcases h2 with rfl | ⟨rfl,h2⟩
 ·rfl
 ·rw [h2]; rfl
section
variable {α:Type}
def lexG (c:α→α→Int):List α→List α→Int
 | [],[]=>0
 | [],_::_=> -1
 | _::_,[]=>1
 | x::a,y::b=>if c x y=0 then lexG c a b else c x y
theorem zDg (e:α→TT) {c:α→α→Int}:∀ (a b:List α),(∀ x∈a,∀ y∈b,c x y=cmpT (e x) (e y))→lexG c a b=cmpL (a.map e) (b.map e)
 | [],[],_=>by simp only [lexG,List.map,cmpL]
 | [],_::_,_=>by simp only [lexG,List.map,cmpL]
 | _::_,[],_=>by simp only [lexG,List.map,cmpL]
 | x::a,y::b,h=>by
  simp only [lexG,List.map,cmpL]
  rw [h x (by simp) y (by simp),zDg e a b fun x hx y hy=>h x (by simp [hx]) y (by simp [hy])]
variable [Inhabited α]
def zNF (g:α→α→Bool×Int) (s1:List α) (s2:List α) (t11:List α) (t12:Int) (t13:Int):Wy (List α×List α×Unit×List α×Int×Int×Unit) (Unit) (Int⊕(List α×List α)):=.i (decide (t13<t12)) (.i (decide ((0:Int)≤t13)&&decide (t13<Int.ofNat t11.length)) (.i (decide (t13≥Int.ofNat s2.length)) (.k (.inl (1:Int))) (.i (decide ((0:Int)≤t13)&&decide (t13<Int.ofNat s2.length)) (.bn (g (t11.getD t13.toNat default) (s2.getD t13.toNat default)) fun r0=>.i (r0 != (0:Int)) (.k (.inl (r0))) (.h (s1,s2,(),t11,t12,(IntKind.i64.wrap (t13+(1:Int))),()) ())) .d)) .d) (.k (.inr (s1,s2)))
def zQQ (g:α→α→Bool×Int) (x:List α×List α×Unit×List α×Int×Int×Unit) (y:Unit):Wy (List α×List α×Unit×List α×Int×Int×Unit) (Unit) (Int⊕(List α×List α)):=zNF g x.1 x.2.1 x.2.2.2.1 x.2.2.2.2.1 x.2.2.2.2.2.1
def zQN (g:α→α→Bool×Int) (n:Nat) (s1:List α) (s2:List α) (t11:List α) (t12:Int) (t13:Int):Bool×(Int⊕(List α×List α)):=zQ (zQQ g) (.inl default) n (s1,s2,(),t11,t12,t13,()) ()
def CF (g:α→α→Bool×Int) (s1 s2:List α):Bool×Int:=(.bn (zQN g (s1.length+s2.length+s1.length+(Int.ofNat s1.length).toNat +Int.toNat (0:Int)+(1:Nat)) s1 s2 s1 (Int.ofNat s1.length) (0:Int)) fun r2=>.i (isL r2) (.k (getL r2)) (.i (decide (Int.ofNat (getR r2).fst.length<Int.ofNat (getR r2).snd.length)) (.k (-1:Int)) (.k (0:Int))):Wy0 Int).fin default
theorem zP5 (g:α→α→Bool×Int) (c:α→α→Int) (a b:List α) (ha:a.length≤1000000) (hg:∀ x∈a,∀ y∈b,g x y=(true,c x y)):∀ (n i:Nat),a.length<i+n→i≤a.length→i≤b.length→
  ∃ r,zQN g n a b a a.length i=(true,r)∧((r=.inl (lexG c (a.drop i) (b.drop i)))∨(r=.inr (a,b)∧lexG c (a.drop i) (b.drop i)=if a.length<b.length then -1 else 0))
 | 0,i,h,h2,h3=>by omega
 | n+1,i,h,h2,h3=>by
  show ∃ r,(zNF g a b a a.length i).ev (fun x y=>zQN g n x.1 x.2.1 x.2.2.2.1 x.2.2.2.2.1 x.2.2.2.2.2.1) (fun r=>(true,r)) (false,.inl default)=(true,r)∧_
  unfold zNF
  by_cases hi:i<a.length
  ·by_cases hi':i<b.length
   ·have hg':¬ b.length≤i:=by omega
    simp only [Wy.ev_i,Wy.ev_k,Wy.ev_h,Wy.ev_bn,Wy.ev_d,Int.ofNat_eq_natCast,zut,zez,decide_true,decide_false,Bool.and_self,Bool.true_and,Bool.and_true,cond_true,cond_false,Int.toNat_natCast,Bool.not_true,Bool.not_false,hi,hi',zSe,hg',hg _ (zp hi) _ (zp hi')]
    rw [zbm hi,zbm hi',zM (by omega)]
    simp only [lexG]
    generalize c (a.getD i default) (b.getD i default)=z
    by_cases hx:z=0
    ·have e:(z != 0)=false:=by simp [hx]
     simp only [e,cond_false,hx,if_true]
     exact zP5 g c a b ha hg n (i+1) (by omega) (by omega) (by omega)
    ·have e:(z != 0)=true:=by simp [hx]
     simp only [e,cond_true,hx,if_false]
     exact ⟨_,rfl,.inl rfl⟩
   ·have hg':b.length≤i:=by omega
    simp only [Wy.ev_i,Wy.ev_k,Wy.ev_h,Wy.ev_bn,Wy.ev_d,Int.ofNat_eq_natCast,zut,zez,decide_true,decide_false,Bool.and_self,Bool.true_and,Bool.and_true,cond_true,cond_false,Int.toNat_natCast,Bool.not_true,Bool.not_false,hi,zSe,hg']
    refine ⟨_,rfl,.inl ?_⟩
    rw [zbm hi,zcE hi']; rfl
  ·simp only [Wy.ev_i,Wy.ev_k,Wy.ev_h,Wy.ev_bn,Wy.ev_d,Int.ofNat_eq_natCast,zut,zez,decide_true,decide_false,Bool.and_self,Bool.true_and,Bool.and_true,cond_true,cond_false,Int.toNat_natCast,Bool.not_true,Bool.not_false,hi]
   refine ⟨_,rfl,.inr ⟨rfl, ?_⟩⟩
   rw [zcE hi]
   by_cases hi':i<b.length
   ·rw [zbm hi',if_pos (by omega)]; rfl
   ·rw [zcE hi',if_neg (by omega)]; rfl
theorem zV7 (g:α→α→Bool×Int) (c:α→α→Int) (a b:List α) (ha:a.length≤1000000) (hg:∀ x∈a,∀ y∈b,g x y=(true,c x y)):CF g a b=(true,lexG c a b):=by
 unfold CF
 obtain ⟨r,h1,h2⟩:=zP5 g c a b ha hg (a.length+b.length+a.length+(Int.ofNat a.length).toNat +Int.toNat 0+1) 0 (by simp; omega) (by omega) (by omega)
 rw [show ((0:Nat):Int)=(0:Int) from rfl] at h1
 rw [Wy.fin_bn,show Int.ofNat a.length=(a.length:Int) from rfl] at *
 rw [h1]
 simp only [List.drop_zero] at h2
 rcases h2 with rfl | ⟨rfl,h2⟩
 ·rfl
 ·rw [h2]
  simp only [Wy.fin_i,Wy.fin_k,Int.ofNat_eq_natCast,zut,zez,decide_true,decide_false,Bool.and_self,Bool.true_and,Bool.and_true,cond_true,cond_false,Int.toNat_natCast,Bool.not_true,Bool.not_false,isL,getR]
  by_cases h3:a.length<b.length <;>simp [h3]
end
theorem zIS {α:Type} [Inhabited α] (e:α→TT) (g:α→α→Bool×Int) (a b:List α) (ha:a.length≤1000000) (hg:∀ x∈a,∀ y∈b,g x y=(true,cmpT (e x) (e y))):CF g a b=(true,cmpL (a.map e) (b.map e)):=by
 rw [zV7 g (fun x y=>cmpT (e x) (e y)) a b ha hg,zDg e a b fun _ _ _ _=>rfl]
theorem Factor.eta2 (x:Factor):(FactorOf.mk (Atom.mk x.Atom.Kind x.Atom.Row x.Atom.Args x.Atom.Func x.Atom.Items x.Atom.Op x.Atom.Bound) x.Exp:Factor)=x:=by rw [Atom.eta]
theorem zTE (g):zbz g=CF g:=rfl
theorem zQ5 (g):zbj g=CF g:=by
 have h:zbd g=zQQ g:=by
  funext x y
  unfold zbd zdz zQQ zNF
  rw [Factor.eta2,Factor.eta2]
 funext a b
 unfold zbj zb4 zdv
 rw [h]; rfl
theorem zUI (g):zbf g=CF g:=rfl
theorem zTl (g):zbp g=CF g:=rfl
theorem zBo (a b:Value):znW a b=(true,cmpT (trV a) (trV b)):=by
 unfold znW zwt
 have h:(strings_Compare a.Text b.Text).2=cmpT (trB a.Text) (trB b.Text):=by rw [← zQt]; rfl
 simp only [zsg,zqa,Wy.fin_bn,cond_true,h]
 rw [zqM _ (by simp)]
 simp only [Wy.fin_k,cond_true,trV,cmpT,cmpL,zpc]
 rfl
theorem zEN:∀ n,
  (∀ d a b,zm d a→10*d≤n→zfh n a b=(true,cmpL (zcZ a) (zcZ b)))∧
  (∀ d a b,zm d a→10*d≤n+1→zbA n a b=(true,cmpL (zcZ a) (zcZ b)))∧
  (∀ d x y,zfF (zm d) x.Factors→10*d+10≤n+2→zhP n x y=(true,cmpT (zsc x) (zsc y)))∧
  (∀ d x y,zfF (zm d) x.Factors→10*d+10≤n+3→zgh n x y=(true,cmpL (zbw x.Factors) (zbw y.Factors)))∧
  (∀ d l l',zfF (zm d) l→10*d+10≤n+4→zbC n l l'=(true,cmpL (zbw l) (zbw l')))∧
  (∀ d x y,zcI (zm d) x.Atom→10*d+10≤n+5→ze2 n x y=(true,cmpT (zmY x) (zmY y)))∧
  (∀ d x y,zcI (zm d) x→10*d+10≤n+6→zf7 n x y=(true,cmpT (zdP x) (zdP y)))∧
  (∀ d a b,a.length≤1000000→(∀ x∈a,zm d x)→10*d+10≤n+7→zbe n a b=(true,cmpL (zqQ a) (zqQ b)))∧
  (∀ d a b,a.length≤1000000→(∀ x∈a,zm d x.Ann)→10*d+10≤n+7→zbq n a b=(true,cmpL (zgp a) (zgp b)))∧
  (∀ d x y,zm d x.Ann→10*d+10≤n+8→zeA n x y=(true,cmpT (zY x) (zY y)))
 | 0=>by
  refine ⟨?_, ?_, ?_, ?_, ?_, ?_, ?_, ?_, ?_, ?_⟩
  ·intro d a b h hd; have:d=0:=by omega
   subst this; exact h.elim
  ·intro d a b h hd; have:d=0:=by omega
   subst this; exact h.elim
  all_goals (intros; omega)
 | n+1=>by
  obtain ⟨h1,h2,h3,h4,h5,h6,h7,h8,h9,h10⟩:=zEN n
  refine ⟨?_, ?_, ?_, ?_, ?_, ?_, ?_, ?_, ?_, ?_⟩
  ·intro d a b h hd
   rw [zCQ]
   unfold zl9 zox
   rw [Wy.fin_bn,h2 d a b h (by omega)]; rfl
  ·intro d a b h hd
   cases d with
   | zero=>exact h.elim
   | succ d=>
    rw [zhg,zTE,zyr,zyr]
    exact zIS zsc _ a b h.1 fun x hx y hy=>h3 d x y (h.2 x hx) (by omega)
  ·intro d x y h hd
   rw [zz3]
   unfold zj7 zmu
   rw [Wy.fin_bn,h4 d x y h (by omega)]
   simp only [cond_true,Wy.fin_bn,zqa]
   rw [zqM _ (by simp)]
   obtain ⟨c,l⟩:=x; obtain ⟨c',l'⟩:=y
   simp only [cond_true,Wy.fin_k,zpc,zsc,cmpT,cmpL]
   rfl
  ·intro d x y h hd
   rw [zxO]
   unfold ziV zk3
   rw [Wy.fin_bn,h5 d _ _ h (by omega)]; rfl
  ·intro d l l' h hd
   rw [zhK,zQ5,zqJ,zqJ]
   exact zIS zmY _ l l' h.1 fun x hx y hy=>h6 d x y (h.2 x hx) (by omega)
  ·intro d x y h hd
   rw [zv5]
   unfold zh8 zjV
   rw [Atom.eta,Atom.eta,Wy.fin_bn,h7 d _ _ h (by omega)]
   simp only [cond_true,Wy.fin_bn,zsg]
   rw [zqM _ (by simp)]
   obtain ⟨c,l⟩:=x; obtain ⟨c',l'⟩:=y
   simp only [cond_true,Wy.fin_k,zpc,zmY,cmpT,cmpL]
   rfl
  ·intro d x y h hd
   rw [zxK]
   unfold ziZ zk4
   simp only [cond_true,Wy.fin_bn,zsg,zBo,h8 d x.Args y.Args h.1.1 h.2.1 (by omega),h9 d x.Items y.Items h.1.2.1 (fun w hw=>(h.2.2 w hw).2) (by omega)]
   rw [zqM _ (by simp)]
   obtain ⟨k,r,a,f,i,o,v⟩:=x; obtain ⟨k',r',a',f',i',o',v'⟩:=y
   simp only [cond_true,Wy.fin_k,zpc,zdP,cmpT,cmpL]
   rfl
  ·intro d a b h0 h hd
   rw [zeL,zUI,zwA,zwA]
   exact zIS (fun x=>TT.l (zcZ x)) _ a b h0 fun x hx y hy=>by rw [h1 d x y (h x hx) (by omega)]; simp only [cmpT]
  ·intro d a b h0 h hd
   rw [zfG,zTl,zkI,zkI]
   exact zIS zY _ a b h0 fun x hx y hy=>h10 d x y (h x hx) (by omega)
  ·intro d x y h hd
   rw [zx9]
   unfold ziW zkS
   simp only [cond_true,Wy.fin_bn,zBo,h1 d _ _ h (by omega)]
   rw [zqM _ (by simp)]
   obtain ⟨c,l⟩:=x; obtain ⟨c',l'⟩:=y
   simp only [cond_true,Wy.fin_k,zpc,zY,cmpT,cmpL]
   rfl
theorem zED {d:Nat} {a:List Term} (h:zm d a) (hd:d≤100) (b:List Term):zsn a b=(true,cmpL (zcZ a) (zcZ b)):=(zEN 1000).1 d a b h (by omega)
theorem zqN {d:Nat} {x:Term} (h:zfF (zm d) x.Factors) (hd:d≤99) (y:Term):zbG x y=(true,cmpL (zbw x.Factors) (zbw y.Factors)):=(zEN 1000).2.2.2.1 d x y h (by omega)
theorem zqL {d:Nat} {x:Atom} (h:zcI (zm d) x) (hd:d≤99) (y:Atom):zhG x y=(true,cmpT (zdP x) (zdP y)):=(zEN 1000).2.2.2.2.2.2.1 d x y h (by omega)
theorem ziC {d:Nat} {x:Weighted} (h:zm d x.Ann) (hd:d≤99) (y:Weighted):zZ x y=(true,cmpT (zY x) (zY y)):=(zEN 1000).2.2.2.2.2.2.2.2.2 d x y h (by omega)
theorem zq9 {d:Nat} {a:List Term} (h:zm d a) (hd:d≤100) (b:List Term):zes a b=(true,decide (a=b)):=by
 unfold zes zsV
 rw [Wy.fin_bn,zED h hd]
 simp only [cond_true,Wy.fin_k]
 congr 1
 by_cases e:a=b
 ·subst e; rw [zHz]; simp
 ·have:cmpL (zcZ a) (zcZ b)≠0:=fun h=>e (zzj _ _ (zA9 _ _ h))
  simp [e,this]
def zEE (a:Int) (b:Int):Wy0 (Int):=.i (decide (a<b)) (.k (-1:Int)) (.i (decide (a>b)) (.k 1) (.k 0))
def zcW (a:Int) (b:Int):Bool×Int:=(zEE a b).fin default
abbrev zu1:=List Term×List Term×Int×Unit
abbrev ttTref05Compare1:=Int⊕(List Term×List Term)
def zHR (zc6:List Factor→List Factor→Bool×Int) (a:List Term) (b:List Term) (i:Int):Wy zu1 (Unit) ttTref05Compare1:=.i (decide (i<Int.ofNat a.length)) (.i (decide (i<Int.ofNat b.length)) (.i (decide (0≤i)&&decide (i<Int.ofNat a.length)) (.i (decide (0≤i)&&decide (i<Int.ofNat b.length)) (.bn (zc6 (a.getD i.toNat default).Factors (b.getD i.toNat default).Factors) fun r1=>.i (r1 != 0) (.k (.inl (r1))) (.i (decide (0≤i)&&decide (i<Int.ofNat a.length)) (.i (decide (0≤i)&&decide (i<Int.ofNat b.length)) (.bn (zcW (a.getD i.toNat default).Coeff (b.getD i.toNat default).Coeff) fun r0=>.i (r0 != 0) (.k (.inl (r0))) (.h (a,b,(IntKind.i64.wrap (i+1)),()) ())) .d) .d)) .d) .d) (.k (.inr (a,b)))) (.k (.inr (a,b)))
def zHJ (zc6:List Factor→List Factor→Bool×Int) (x:zu1) (y:Unit):Wy zu1 (Unit) ttTref05Compare1:=zHR zc6 x.1 x.2.1 x.2.2.1
def zHa (zc6:List Factor→List Factor→Bool×Int) (n:Nat) (a:List Term) (b:List Term) (i:Int):Bool×ttTref05Compare1:=zQ (zHJ zc6) (.inl default) n (a,b,i,()) ()
def zJb (zc6:List Factor→List Factor→Bool×Int) (a:List Term) (b:List Term):Wy0 (Int):=.bn (zHa zc6 (a.length+b.length+Int.toNat 0+1) a b 0) fun r5=>.i (isL r5) (.k (getL r5)) (.bn (zcW (Int.ofNat (getR r5).1.length) (Int.ofNat (getR r5).2.length)) fun r4=>.k r4)
def zv6 (zc6:List Factor→List Factor→Bool×Int) (a:List Term) (b:List Term):Bool×Int:=(zJb zc6 a b).fin default
def zIp (less:Bool):Wy0 (Int):=.i (less) (.k (-1:Int)) (.k 1)
def zAR (less:Bool):Bool×Int:=(zIp less).fin default
def zDs (a:Value) (b:Value):Wy0 (Int):=.i (a.Kind != b.Kind) (.bn (zAR (decide (a.Kind<b.Kind))) fun r0=>.k r0) (.i (a.Int != b.Int) (.bn (zAR (decide (a.Int<b.Int))) fun r1=>.k r1) (.i (!a.Text.toList==b.Text.toList) (.bn (zAR (Op.bytesLess a.Text.toList b.Text.toList)) fun r2=>.k r2) (.k 0)))
def zqV (a:Value) (b:Value):Bool×Int:=(zDs a b).fin default
def zzk (a:RowID) (b:RowID):Wy0 (Int):=.bn (zcW a.Table b.Table) fun r1=>.i (r1 != 0) (.k r1) (.bn (zcW a.Seq b.Seq) fun r0=>.k r0)
def zuW (a:RowID) (b:RowID):Bool×Int:=(zzk a b).fin default
abbrev zqo:=Unit×Unit×Int×Unit
abbrev zqs:=Atom×Atom×Unit
abbrev ttTref05CompareAtom2:=Int⊕(Atom×Atom)
def zoy (zdO:List Weighted→List Weighted→Bool×Int) (zbM:List Term→List Term→Bool×Int) (i:Int) (a:Atom) (b:Atom):Wy zqo zqs ttTref05CompareAtom2:=.i (decide (i<Int.ofNat a.Args.length)) (.i (decide (i<Int.ofNat b.Args.length)) (.i (decide (0≤i)&&decide (i<Int.ofNat a.Args.length)) (.i (decide (0≤i)&&decide (i<Int.ofNat b.Args.length)) (.bn (zbM (a.Args.getD i.toNat default) (b.Args.getD i.toNat default)) fun r0=>.i (r0 != 0) (.k (.inl (r0))) (.h ((),(),(IntKind.i64.wrap (i+1)),()) (a,b,()))) .d) .d) (.k (.inr (a,b)))) (.k (.inr (a,b)))
def zDT (zdO:List Weighted→List Weighted→Bool×Int) (zbM:List Term→List Term→Bool×Int) (x:zqo) (y:zqs):Wy zqo zqs ttTref05CompareAtom2:=zoy zdO zbM x.2.2.1 y.1 y.2.1
def zot (zdO:List Weighted→List Weighted→Bool×Int) (zbM:List Term→List Term→Bool×Int) (n:Nat) (i:Int) (a:Atom) (b:Atom):Bool×ttTref05CompareAtom2:=zQ (zDT zdO zbM) (.inl default) n ((),(),i,()) (a,b,())
def zvm (zdO:List Weighted→List Weighted→Bool×Int) (zbM:List Term→List Term→Bool×Int) (a:Atom) (b:Atom):Wy0 (Int):=.bn (zcW a.Kind b.Kind) fun r9=>.i (r9 != 0) (.k r9) (.bn (zuW a.Row b.Row) fun r8=>.i (r8 != 0) (.k r8) (.bn (zot zdO zbM ((Int.toNat 0+1)+(Atom.mk a.Kind a.Row a.Args a.Func a.Items a.Op a.Bound).Args.length+(Atom.mk a.Kind a.Row a.Args a.Func a.Items a.Op a.Bound).Items.length+(Atom.mk b.Kind b.Row b.Args b.Func b.Items b.Op b.Bound).Args.length+(Atom.mk b.Kind b.Row b.Args b.Func b.Items b.Op b.Bound).Items.length) 0 (Atom.mk a.Kind a.Row a.Args a.Func a.Items a.Op a.Bound) (Atom.mk b.Kind b.Row b.Args b.Func b.Items b.Op b.Bound)) fun r7=>.i (isL r7) (.k (getL r7)) (.bn (zcW (Int.ofNat (getR r7).1.Args.length) (Int.ofNat (getR r7).2.Args.length)) fun r6=>.i (r6 != 0) (.k r6) (.bn (zcW (getR r7).1.Func (getR r7).2.Func) fun r5=>.i (r5 != 0) (.k r5) (.bn (zdO (getR r7).1.Items (getR r7).2.Items) fun r4=>.i (r4 != 0) (.k r4) (.bn (zcW (getR r7).1.Op (getR r7).2.Op) fun r3=>.i (r3 != 0) (.k r3) (.bn (zqV (getR r7).1.Bound (getR r7).2.Bound) fun r2=>.k r2)))))))
def znr (zdO:List Weighted→List Weighted→Bool×Int) (zbM:List Term→List Term→Bool×Int) (a:Atom) (b:Atom):Bool×Int:=(zvm zdO zbM a b).fin default
abbrev znQ:=List Factor×List Factor×Int×Unit
abbrev ttTref05CompareFactors1:=Int⊕(List Factor×List Factor)
def zrC (zd9:Atom→Atom→Bool×Int) (a:List Factor) (b:List Factor) (i:Int):Wy znQ (Unit) ttTref05CompareFactors1:=.i (decide (i<Int.ofNat a.length)) (.i (decide (i<Int.ofNat b.length)) (.i (decide (0≤i)&&decide (i<Int.ofNat a.length)) (.i (decide (0≤i)&&decide (i<Int.ofNat b.length)) (.bn (zd9 (Atom.mk (a.getD i.toNat default).Atom.Kind (a.getD i.toNat default).Atom.Row (a.getD i.toNat default).Atom.Args (a.getD i.toNat default).Atom.Func (a.getD i.toNat default).Atom.Items (a.getD i.toNat default).Atom.Op (a.getD i.toNat default).Atom.Bound) (Atom.mk (b.getD i.toNat default).Atom.Kind (b.getD i.toNat default).Atom.Row (b.getD i.toNat default).Atom.Args (b.getD i.toNat default).Atom.Func (b.getD i.toNat default).Atom.Items (b.getD i.toNat default).Atom.Op (b.getD i.toNat default).Atom.Bound)) fun r1=>.i (r1 != 0) (.k (.inl (r1))) (.i (decide (0≤i)&&decide (i<Int.ofNat a.length)) (.i (decide (0≤i)&&decide (i<Int.ofNat b.length)) (.bn (zcW (a.getD i.toNat default).Exp (b.getD i.toNat default).Exp) fun r0=>.i (r0 != 0) (.k (.inl (r0))) (.h (a,b,(IntKind.i64.wrap (i+1)),()) ())) .d) .d)) .d) .d) (.k (.inr (a,b)))) (.k (.inr (a,b)))
def zmm (zd9:Atom→Atom→Bool×Int) (x:znQ) (y:Unit):Wy znQ (Unit) ttTref05CompareFactors1:=zrC zd9 x.1 x.2.1 x.2.2.1
def zrB (zd9:Atom→Atom→Bool×Int) (n:Nat) (a:List Factor) (b:List Factor) (i:Int):Bool×ttTref05CompareFactors1:=zQ (zmm zd9) (.inl default) n (a,b,i,()) ()
def zsd (zd9:Atom→Atom→Bool×Int) (a:List Factor) (b:List Factor):Wy0 (Int):=.bn (zrB zd9 (a.length+b.length+Int.toNat 0+1) a b 0) fun r5=>.i (isL r5) (.k (getL r5)) (.bn (zcW (Int.ofNat (getR r5).1.length) (Int.ofNat (getR r5).2.length)) fun r4=>.k r4)
def zkH (zd9:Atom→Atom→Bool×Int) (a:List Factor) (b:List Factor):Bool×Int:=(zsd zd9 a b).fin default
abbrev zpe:=List Weighted×List Weighted×Int×Unit
abbrev ttTref05CompareItems1:=Int⊕(List Weighted×List Weighted)
def zCP (zbM:List Term→List Term→Bool×Int) (a:List Weighted) (b:List Weighted) (i:Int):Wy zpe (Unit) ttTref05CompareItems1:=.i (decide (i<Int.ofNat a.length)) (.i (decide (i<Int.ofNat b.length)) (.i (decide (0≤i)&&decide (i<Int.ofNat a.length)) (.i (decide (0≤i)&&decide (i<Int.ofNat b.length)) (.bn (zqV (a.getD i.toNat default).Value (b.getD i.toNat default).Value) fun r1=>.i (r1 != 0) (.k (.inl (r1))) (.i (decide (0≤i)&&decide (i<Int.ofNat a.length)) (.i (decide (0≤i)&&decide (i<Int.ofNat b.length)) (.bn (zbM (a.getD i.toNat default).Ann (b.getD i.toNat default).Ann) fun r0=>.i (r0 != 0) (.k (.inl (r0))) (.h (a,b,(IntKind.i64.wrap (i+1)),()) ())) .d) .d)) .d) .d) (.k (.inr (a,b)))) (.k (.inr (a,b)))
def zCH (zbM:List Term→List Term→Bool×Int) (x:zpe) (y:Unit):Wy zpe (Unit) ttTref05CompareItems1:=zCP zbM x.1 x.2.1 x.2.2.1
def zCN (zbM:List Term→List Term→Bool×Int) (n:Nat) (a:List Weighted) (b:List Weighted) (i:Int):Bool×ttTref05CompareItems1:=zQ (zCH zbM) (.inl default) n (a,b,i,()) ()
def zDM (zbM:List Term→List Term→Bool×Int) (a:List Weighted) (b:List Weighted):Wy0 (Int):=.bn (zCN zbM (a.length+b.length+Int.toNat 0+1) a b 0) fun r5=>.i (isL r5) (.k (getL r5)) (.bn (zcW (Int.ofNat (getR r5).1.length) (Int.ofNat (getR r5).2.length)) fun r4=>.k r4)
def zp6 (zbM:List Term→List Term→Bool×Int) (a:List Weighted) (b:List Weighted):Bool×Int:=(zDM zbM a b).fin default
def zjx:Nat→(List Term→List Term→Bool×Int)×(List Factor→List Factor→Bool×Int)×(Atom→Atom→Bool×Int)×(List Weighted→List Weighted→Bool×Int)
 | 0=>(fun _ _=>(false,default),fun _ _=>(false,default),fun _ _=>(false,default),fun _ _=>(false,default))
 | n+1=>(zv6 ((zjx n).2.1),zkH ((zjx n).2.2.1),znr ((zjx n).2.2.2) ((zjx n).1),zp6 ((zjx n).1))
def zn9 (n:Nat):List Term→List Term→Bool×Int:=(zjx n).1
def zkD (n:Nat):List Factor→List Factor→Bool×Int:=(zjx n).2.1
def znm (n:Nat):Atom→Atom→Bool×Int:=(zjx n).2.2.1
def zme (n:Nat):List Weighted→List Weighted→Bool×Int:=(zjx n).2.2.2
theorem zHy (n:Nat):zn9 (n+1)=zv6 (zkD n):=rfl
theorem zAK (n:Nat):zkD (n+1)=zkH (znm n):=rfl
theorem zD3 (n:Nat):znm (n+1)=znr (zme n) (zn9 n):=rfl
theorem zCI (n:Nat):zme (n+1)=zp6 (zn9 n):=rfl
def zGb:List Term→List Term→Bool×Int:=zn9 1000
def zmv:List Factor→List Factor→Bool×Int:=zkD 1000
def zlQ:Atom→Atom→Bool×Int:=znm 1000
def zsO:List Weighted→List Weighted→Bool×Int:=zme 1000
def zIt (a:List Term) (b:List Term):Wy0 (Bool):=.bn (zGb a b) fun r0=>.k (r0==0)
def zs5 (a:List Term) (b:List Term):Bool×Bool:=(zIt a b).fin default
theorem zJB (s:ByteArray):∀ (n i:Nat) (r:List UInt8),s.size≤i+n→ByteArray.toList.loop s i r=r.reverse++s.data.toList.drop i
 | 0,i,r,h=>by
  rw [ByteArray.toList.loop,if_neg (by omega),List.drop_eq_nil_of_le (by rw [← Lib.size_eq]; omega),List.append_nil]
 | n+1,i,r,h=>by
  rw [ByteArray.toList.loop]
  by_cases hi:i<s.size
  ·have hi':i<s.data.toList.length:=by rw [← Lib.size_eq]; exact hi
   rw [if_pos hi,zJB s n (i+1) _ (by omega),List.drop_eq_getElem_cons hi',List.reverse_cons,List.append_assoc]
   congr 1
   have:s.get! i=s.data.toList[i]:=by
    have h':i<s.data.size:=hi
    show s.data[i]! =s.data.toList[i]
    rw [getElem!_pos s.data i h']; rfl
   rw [this]; rfl
  ·rw [if_neg hi,List.drop_eq_nil_of_le (by rw [← Lib.size_eq]; omega),List.append_nil]
theorem zDi (s:ByteArray):s.toList=s.data.toList:=by
 rw [ByteArray.toList,zJB s s.size 0 [] (by omega)]; rfl
theorem zys {s t:ByteArray} (h:s.data.toList=t.data.toList):s=t:=by
 cases s; cases t
 congr 1
 exact Array.toList_inj.1 h
theorem zQy (s t:ByteArray):(s.toList==t.toList)=decide (s.data.toList=t.data.toList):=by
 rw [zDi,zDi]
 cases hb:(s.data.toList==t.data.toList) with
 | true=>rw [decide_eq_true (beq_iff_eq.1 hb)]
 | false=>rw [decide_eq_false (fun h=>by rw [beq_iff_eq.2 h] at hb; cases hb)]
theorem zH9 (s t:ByteArray):(s.toList==t.toList)=decide (s=t):=by
 rw [zQy]
 by_cases h:s=t
 ·rw [decide_eq_true h,decide_eq_true (by rw [h])]
 ·rw [decide_eq_false h,decide_eq_false fun e=>h (zys e)]
theorem bne0 (z w:Int):(z != w)= !decide (z=w):=by by_cases h:z=w <;>simp [h]
theorem zGs:∀ a b:List UInt8,Op.bytesLess a b=decide (Lib.compareBytes a b<0)
 | [],[]=>by simp [Op.bytesLess,Lib.compareBytes]
 | _::_,[]=>by simp [Op.bytesLess,Lib.compareBytes]
 | [],_::_=>by simp [Op.bytesLess,Lib.compareBytes]
 | x::a,y::b=>by
  simp only [Op.bytesLess,Lib.compareBytes]
  by_cases p:x<y
  ·simp [p]
  ·by_cases q:y<x
   ·have hne:¬ x=y:=fun e=>by subst e; exact p q
    simp [p,q,hne]
   ·have he:x=y:=UInt8.toNat_inj.1 (by rw [UInt8.lt_iff_toNat_lt] at p q; omega)
    subst he
    simp [p,zGs a b]
theorem zCx (a b:Value):zqV a b=(true,cmpT (trV a) (trV b)):=by
 unfold zqV zDs zAR zIp
 rw [zH9,zDi,zDi,zGs,zQt]
 simp only [trV,cmpT,cmpL,cmpI]
 simp only [Wy.fin_i,Wy.fin_bn,Wy.fin_k,cond_true,bne0]
 by_cases h1:a.Kind=b.Kind
 ·by_cases h2:a.Int=b.Int
  ·by_cases h3:a.Text=b.Text
   ·simp [h1,h2,h3,zHh]
   ·have h4:cmpT (trB a.Text) (trB b.Text)≠0:=fun e=>by
     have:=zzC _ _ (TT.l.inj (zs7 _ _ e))
     exact h3 (zys this)
    have h5:=zN2 (trB a.Text) (trB b.Text)
    simp only [trB,cmpT] at h4 h5
    simp only [trB,cmpT]
    rcases h5 with h5 | h5 | h5
    ·simp [h1,h2,h3,h5]
    ·exact absurd h5 h4
    ·simp [h1,h2,h3,h5]
  ·by_cases h3:a.Int<b.Int
   ·simp [h1,h2,h3]
   ·simp [h1,h2,h3,show b.Int<a.Int by omega]
 ·by_cases h3:a.Kind<b.Kind
  ·simp [h1,h3]
  ·simp [h1,h3,show b.Kind<a.Kind by omega]
theorem zlh (x y:Int):zcW x y=(true,cmpI x y):=by
 unfold zcW zEE cmpI
 by_cases h1:x<y
 ·simp [h1,Wy.fin_i,Wy.fin_k]
 ·by_cases h2:y<x <;>simp [h1,h2,Wy.fin_i,Wy.fin_k]
theorem zGW (x y:RowID):zuW x y=(true,if cmpI x.Table y.Table=0 then cmpI x.Seq y.Seq else cmpI x.Table y.Table):=by
 unfold zuW zzk
 simp only [zlh,Wy.fin_i,Wy.fin_bn,Wy.fin_k,cond_true,bne0]
 by_cases h:cmpI x.Table y.Table=0
 ·simp [h]
 ·simp [h]
section
variable {α:Type} [Inhabited α]
def zNx (p q:α→α→Bool×Int) (a:List α) (b:List α) (i:Int):Wy (List α×List α×Int×Unit) (Unit) (Int⊕(List α×List α)):=.i (decide (i<Int.ofNat a.length)) (.i (decide (i<Int.ofNat b.length)) (.i (decide ((0:Int)≤i)&&decide (i<Int.ofNat a.length)) (.i (decide ((0:Int)≤i)&&decide (i<Int.ofNat b.length)) (.bn (p (a.getD i.toNat default) (b.getD i.toNat default)) fun r1=>.i (r1 != (0:Int)) (.k (.inl (r1))) (.i (decide ((0:Int)≤i)&&decide (i<Int.ofNat a.length)) (.i (decide ((0:Int)≤i)&&decide (i<Int.ofNat b.length)) (.bn (q (a.getD i.toNat default) (b.getD i.toNat default)) fun r0=>.i (r0 != (0:Int)) (.k (.inl (r0))) (.h (a,b,(IntKind.i64.wrap (i+(1:Int))),()) ())) .d) .d)) .d) .d) (.k (.inr (a,b)))) (.k (.inr (a,b)))
def zQ8 (p q:α→α→Bool×Int) (x:List α×List α×Int×Unit) (y:Unit):Wy (List α×List α×Int×Unit) (Unit) (Int⊕(List α×List α)):=zNx p q x.1 x.2.1 x.2.2.1
def zQS (p q:α→α→Bool×Int) (n:Nat) (a:List α) (b:List α) (i:Int):Bool×(Int⊕(List α×List α)):=zQ (zQ8 p q) (.inl default) n (a,b,i,()) ()
def RG (p q:α→α→Bool×Int) (a b:List α):Bool×Int:=(.bn (zQS p q (a.length+b.length+Int.toNat (0:Int)+(1:Nat)) a b (0:Int)) fun r5=>.i (isL r5) (.k (getL r5)) (.bn (zcW (Int.ofNat (getR r5).fst.length) (Int.ofNat (getR r5).snd.length)) fun r4=>.k r4):Wy0 Int).fin default
theorem zQh (p q:α→α→Bool×Int) (c1 c2:α→α→Int) (a b:List α) (ha:a.length≤1000000) (hp:∀ x∈a,∀ y∈b,p x y=(true,c1 x y)) (hq:∀ x∈a,∀ y∈b,q x y=(true,c2 x y)):∀ (n i:Nat),a.length<i+n→i≤a.length→i≤b.length→
  ∃ r,zQS p q n a b i=(true,r)∧((r=.inl (lexG (fun x y=>if c1 x y=0 then c2 x y else c1 x y) (a.drop i) (b.drop i)))∨(r=.inr (a,b)∧lexG (fun x y=>if c1 x y=0 then c2 x y else c1 x y) (a.drop i) (b.drop i)=cmpI a.length b.length))
 | 0,i,h,h2,h3=>by omega
 | n+1,i,h,h2,h3=>by
  show ∃ r,(zNx p q a b i).ev (fun x y=>zQS p q n x.1 x.2.1 x.2.2.1) (fun r=>(true,r)) (false,.inl default)=(true,r)∧_
  unfold zNx
  by_cases hi:i<a.length
  ·by_cases hi':i<b.length
   ·simp only [Wy.ev_i,Wy.ev_k,Wy.ev_h,Wy.ev_bn,Wy.ev_d,tT,hi,hi',hp _ (zp hi) _ (zp hi'),hq _ (zp hi) _ (zp hi')]
    rw [zbm hi,zbm hi',zM (by omega)]
    simp only [lexG]
    generalize c1 (a.getD i default) (b.getD i default)=z1
    generalize c2 (a.getD i default) (b.getD i default)=z2
    by_cases hx:z1=0
    ·have e:(z1 != 0)=false:=by simp [hx]
     by_cases hx2:z2=0
     ·have e2:(z2 != 0)=false:=by simp [hx2]
      simp only [e,e2,cond_false,hx,hx2,if_true]
      exact zQh p q c1 c2 a b ha hp hq n (i+1) (by omega) (by omega) (by omega)
     ·have e2:(z2 != 0)=true:=by simp [hx2]
      simp only [e,e2,cond_false,cond_true,hx,hx2,if_true,if_false]
      exact ⟨_,rfl,.inl rfl⟩
    ·have e:(z1 != 0)=true:=by simp [hx]
     simp only [e,cond_true,hx,if_false]
     exact ⟨_,rfl,.inl rfl⟩
   ·simp only [Wy.ev_i,Wy.ev_k,Wy.ev_h,Wy.ev_bn,Wy.ev_d,tT,hi,hi']
    refine ⟨_,rfl,.inr ⟨rfl, ?_⟩⟩
    rw [zbm hi,zcE hi']
    unfold cmpI; rw [if_neg (by omega),if_pos (by omega)]; rfl
  ·simp only [Wy.ev_i,Wy.ev_k,Wy.ev_h,Wy.ev_bn,Wy.ev_d,tT,hi]
   refine ⟨_,rfl,.inr ⟨rfl, ?_⟩⟩
   rw [zcE hi]
   by_cases hi':i<b.length
   ·rw [zbm hi']; unfold cmpI; rw [if_pos (by omega)]; rfl
   ·rw [zcE hi']; unfold cmpI; rw [if_neg (by omega),if_neg (by omega)]; rfl
theorem zWb (p q:α→α→Bool×Int) (c1 c2:α→α→Int) (a b:List α) (ha:a.length≤1000000) (hp:∀ x∈a,∀ y∈b,p x y=(true,c1 x y)) (hq:∀ x∈a,∀ y∈b,q x y=(true,c2 x y)):RG p q a b=(true,lexG (fun x y=>if c1 x y=0 then c2 x y else c1 x y) a b):=by
 unfold RG
 obtain ⟨r,h1,h2⟩:=zQh p q c1 c2 a b ha hp hq (a.length+b.length+Int.toNat 0+1) 0 (by simp; omega) (by omega) (by omega)
 rw [show ((0:Nat):Int)=(0:Int) from rfl] at h1
 rw [Wy.fin_bn,h1]
 simp only [List.drop_zero] at h2
 rcases h2 with rfl | ⟨rfl,h2⟩
 ·rfl
 ·rw [h2]
  simp only [Wy.fin_i,Wy.fin_k,Wy.fin_bn,zlh,tT,isL,getR]
end
theorem zMm {α:Type} [Inhabited α] (e:α→TT) (p q:α→α→Bool×Int) (c1 c2:α→α→Int) (a b:List α) (ha:a.length≤1000000) (hp:∀ x∈a,∀ y∈b,p x y=(true,c1 x y)) (hq:∀ x∈a,∀ y∈b,q x y=(true,c2 x y))
  (hc:∀ x y,(if c1 x y=0 then c2 x y else c1 x y)=cmpT (e x) (e y)):RG p q a b=(true,cmpL (a.map e) (b.map e)):=by
 rw [zWb p q c1 c2 a b ha hp hq,zDg e a b fun x _ y _=>hc x y]
theorem zTe (g):zv6 g=RG (fun x y=>g x.Factors y.Factors) (fun x y=>zcW x.Coeff y.Coeff):=rfl
theorem zRm (g):zkH g=RG (fun x y=>g x.Atom y.Atom) (fun x y=>zcW x.Exp y.Exp):=by
 have h:zmm g=zQ8 (fun x y=>g x.Atom y.Atom) (fun x y=>zcW x.Exp y.Exp):=by
  funext x y
  unfold zmm zrC zQ8 zNx
  rw [Atom.eta,Atom.eta]
 funext a b
 unfold zkH zsd zrB
 rw [h]; rfl
theorem zSM (g):zp6 g=RG (fun x y=>zqV x.Value y.Value) (fun x y=>g x.Ann y.Ann):=rfl
theorem zMx (gI) (g:List Term→List Term→Bool×Int) (a b:Atom) (ha:a.Args.length≤1000000) (hg:∀ x∈a.Args,∀ y∈b.Args,g x y=(true,cmpL (zcZ x) (zcZ y))):∀ (n i:Nat),a.Args.length<i+n→i≤a.Args.length→i≤b.Args.length→
  ∃ r,zot gI g n i a b=(true,r)∧((r=.inl (lexG (fun x y=>cmpL (zcZ x) (zcZ y)) (a.Args.drop i) (b.Args.drop i))∧lexG (fun x y=>cmpL (zcZ x) (zcZ y)) (a.Args.drop i) (b.Args.drop i)≠0)∨(r=.inr (a,b)∧lexG (fun x y=>cmpL (zcZ x) (zcZ y)) (a.Args.drop i) (b.Args.drop i)=cmpI a.Args.length b.Args.length))
 | 0,i,h,h2,h3=>by omega
 | n+1,i,h,h2,h3=>by
  show ∃ r,(zoy gI g i a b).ev (fun x y=>zot gI g n x.2.2.1 y.1 y.2.1) (fun r=>(true,r)) (false,.inl default)=(true,r)∧_
  unfold zoy
  by_cases hi:i<a.Args.length
  ·by_cases hi':i<b.Args.length
   ·simp only [Wy.ev_i,Wy.ev_k,Wy.ev_h,Wy.ev_bn,Wy.ev_d,tT,hi,hi',hg _ (zp hi) _ (zp hi')]
    rw [zbm hi,zbm hi',zM (by omega)]
    simp only [lexG]
    generalize cmpL (zcZ (a.Args.getD i default)) (zcZ (b.Args.getD i default))=z1
    by_cases hx:z1=0
    ·have e:(z1 != 0)=false:=by simp [hx]
     simp only [e,cond_false,hx,if_true]
     exact zMx gI g a b ha hg n (i+1) (by omega) (by omega) (by omega)
    ·have e:(z1 != 0)=true:=by simp [hx]
     simp only [e,cond_true,hx,if_false]
     exact ⟨_,rfl,.inl ⟨rfl,hx⟩⟩
   ·simp only [Wy.ev_i,Wy.ev_k,Wy.ev_h,Wy.ev_bn,Wy.ev_d,tT,hi,hi']
    refine ⟨_,rfl,.inr ⟨rfl, ?_⟩⟩
    rw [zbm hi,zcE hi']
    unfold cmpI; rw [if_neg (by omega),if_pos (by omega)]; rfl
  ·simp only [Wy.ev_i,Wy.ev_k,Wy.ev_h,Wy.ev_bn,Wy.ev_d,tT,hi]
   refine ⟨_,rfl,.inr ⟨rfl, ?_⟩⟩
   rw [zcE hi]
   by_cases hi':i<b.Args.length
   ·rw [zbm hi']; unfold cmpI; rw [if_pos (by omega)]; rfl
   ·rw [zcE hi']; unfold cmpI; rw [if_neg (by omega),if_neg (by omega)]; rfl
theorem zU7 (gI) (g:List Term→List Term→Bool×Int) (x y:Atom) (ha:x.Args.length≤1000000) (hg:∀ a∈x.Args,∀ b∈y.Args,g a b=(true,cmpL (zcZ a) (zcZ b)))
  (hI:gI x.Items y.Items=(true,cmpL (zgp x.Items) (zgp y.Items))):znr gI g x y=(true,cmpT (zdP x) (zdP y)):=by
 unfold znr zvm
 rw [Atom.eta,Atom.eta]
 obtain ⟨r,h1,h2⟩:=zMx gI g x y ha hg (Int.toNat 0+1+x.Args.length+x.Items.length+y.Args.length+y.Items.length) 0 (by omega) (by omega) (by omega)
 rw [show ((0:Nat):Int)=(0:Int) from rfl] at h1
 simp only [List.drop_zero] at h2
 rw [zDg (fun a=>TT.l (zcZ a)) x.Args y.Args (fun a _ b _=>by simp only [cmpT]), ← zwA, ← zwA] at h2
 simp only [zlh,zGW,Wy.fin_bn,Wy.fin_i,Wy.fin_k,cond_true,h1]
 obtain ⟨k,r0,a,f,i,o,v⟩:=x; obtain ⟨k',r',a',f',i',o',v'⟩:=y
 simp only [zdP,cmpT,cmpL,bne0] at *
 by_cases e1:cmpI k k'=0
 rotate_left
 ·simp [e1]
 by_cases e2:cmpI r0.Table r'.Table=0
 rotate_left
 ·simp [e1,e2]
 by_cases e3:cmpI r0.Seq r'.Seq=0
 rotate_left
 ·simp [e1,e2,e3]
 rcases h2 with ⟨rfl,h2⟩ | ⟨rfl,h2⟩
 ·simp [e1,e2,e3,h2,isL,getL]
 simp only [e1,e2,e3,h2,isL,getR,tT,hI,if_true]
 by_cases e4:cmpI (a.length:Int) (a'.length:Int)=0
 rotate_left
 ·simp [e4]
 by_cases e5:cmpI f f'=0
 rotate_left
 ·simp [e4,e5]
 by_cases e6:cmpL (zgp i) (zgp i')=0
 rotate_left
 ·simp [e4,e5,e6]
 by_cases e7:cmpI o o'=0
 rotate_left
 ·simp [e4,e5,e6,e7]
 simp [e4,e5,e6,e7,zCx]
theorem zB0:∀ n,
  (∀ d a b,zm d a→10*d≤n→zn9 n a b=(true,cmpL (zcZ a) (zcZ b)))∧
  (∀ d l l',zfF (zm d) l→10*d+10≤n+1→zkD n l l'=(true,cmpL (zbw l) (zbw l')))∧
  (∀ d x y,zcI (zm d) x→10*d+10≤n+2→znm n x y=(true,cmpT (zdP x) (zdP y)))∧
  (∀ d a b,a.length≤1000000→(∀ x∈a,zm d x.Ann)→10*d+10≤n+3→zme n a b=(true,cmpL (zgp a) (zgp b)))
 | 0=>by
  refine ⟨?_, ?_, ?_, ?_⟩
  ·intro d a b h hd; have:d=0:=by omega
   subst this; exact h.elim
  all_goals (intros; omega)
 | n+1=>by
  obtain ⟨h1,h2,h3,h4⟩:=zB0 n
  refine ⟨?_, ?_, ?_, ?_⟩
  ·intro d a b h hd
   cases d with
   | zero=>exact h.elim
   | succ d=>
    rw [zHy,zTe,zyr,zyr]
    exact zMm zsc _ _ (fun x y=>cmpL (zbw x.Factors) (zbw y.Factors)) (fun x y=>cmpI x.Coeff y.Coeff) a b h.1 (fun x hx y hy=>h2 d _ _ (h.2 x hx) (by omega)) (fun x _ y _=>zlh _ _) fun x y=>by
     obtain ⟨c,l⟩:=x; obtain ⟨c',l'⟩:=y
     simp only [zsc,cmpT,cmpL]
     by_cases e:cmpI c c'=0 <;>simp [e]
  ·intro d l l' h hd
   rw [zAK,zRm,zqJ,zqJ]
   exact zMm zmY _ _ (fun x y=>cmpT (zdP x.Atom) (zdP y.Atom)) (fun x y=>cmpI x.Exp y.Exp) l l' h.1 (fun x hx y hy=>h3 d _ _ (h.2 x hx) (by omega)) (fun x _ y _=>zlh _ _) fun x y=>by
    obtain ⟨c,l⟩:=x; obtain ⟨c',l'⟩:=y
    simp only [zmY,cmpT,cmpL]
    by_cases e:cmpI l l'=0 <;>simp [e]
  ·intro d x y h hd
   rw [zD3]
   exact zU7 _ _ x y h.1.1 (fun a ha b _=>h1 d a b (h.2.1 a ha) (by omega)) (h4 d _ _ h.1.2.1 (fun w hw=>(h.2.2 w hw).2) (by omega))
  ·intro d a b h0 h hd
   rw [zCI,zSM,zkI,zkI]
   exact zMm zY _ _ (fun x y=>cmpT (trV x.Value) (trV y.Value)) (fun x y=>cmpL (zcZ x.Ann) (zcZ y.Ann)) a b h0 (fun x _ y _=>zCx _ _) (fun x hx y _=>h1 d _ _ (h x hx) (by omega)) fun x y=>by
    obtain ⟨c,l⟩:=x; obtain ⟨c',l'⟩:=y
    simp only [zY,cmpT,cmpL]
    by_cases e:cmpL (zcZ l) (zcZ l')=0 <;>simp [e]
theorem zJY {d:Nat} {a:List Term} (h:zm d a) (hd:d≤100) (b:List Term):zGb a b=(true,cmpL (zcZ a) (zcZ b)):=(zB0 1000).1 d a b h (by omega)
theorem znD {d:Nat} {l:List Factor} (h:zfF (zm d) l) (hd:d≤99) (l':List Factor):zmv l l'=(true,cmpL (zbw l) (zbw l')):=(zB0 1000).2.1 d l l' h (by omega)
theorem zqt {d:Nat} {x:Atom} (h:zcI (zm d) x) (hd:d≤99) (y:Atom):zlQ x y=(true,cmpT (zdP x) (zdP y)):=(zB0 1000).2.2.1 d x y h (by omega)
theorem zu5 {d:Nat} {a:List Weighted} (h0:a.length≤1000000) (h:∀ x∈a,zm d x.Ann) (hd:d≤99) (b:List Weighted):zsO a b=(true,cmpL (zgp a) (zgp b)):=(zB0 1000).2.2.2 d a b h0 h (by omega)
theorem zzA {d:Nat} {a:List Term} (h:zm d a) (hd:d≤100) (b:List Term):zs5 a b=(true,decide (a=b)):=by
 unfold zs5 zIt
 rw [Wy.fin_bn,zJY h hd]
 simp only [cond_true,Wy.fin_k]
 congr 1
 by_cases e:a=b
 ·subst e; rw [zHz]; simp
 ·have:cmpL (zcZ a) (zcZ b)≠0:=fun h=>e (zzj _ _ (zA9 _ _ h))
  simp [e,this]
end Go.Proofs.YtnolcogncjijpaaGreatDoor
end
