/- Texts of this claim, joined (the program, its functions in plain words, and what they compute). -/
import Derived.Test.YtnolcogncjijpaaGreatDoorGC6
import Derived.Test.YtnolcogncjijpaaGreatDoorGC3
import Derived.Test.YtnolcogncjijpaaGreatDoorGB1
import Derived.Test.YtnolcogncjijpaaGreatDoorGA3
import Derived.Test.YtnolcogncjijpaaGreatDoorGC1
import Derived.Test.YtnolcogncjijpaaGreatDoorGA2
import Derived.Test.YtnolcogncjijpaaGreatDoorGC5
import Derived.Test.YtnolcogncjijpaaGreatDoorGC4
set_option autoImplicit false
set_option linter.unusedVariables false
set_option linter.unusedSectionVars false
set_option linter.unusedSimpArgs false
set_option maxRecDepth 1000000
set_option maxHeartbeats 0
/- The texts of annotations: what the program's texts are. -/
noncomputable section
namespace Go.Proofs.YtnolcogncjijpaaGreatDoor
open Go Go.Ab
def txV (v:Value):List UInt8:=if v.Kind=0 then zhC v.Int else if v.Kind=1 then 39::(v.Text.data.toList.flatMap esc++[39]) else if v.Int=1 then [84,82,85,69] else [70,65,76,83,69]
def txR (r:RowID):List UInt8:=116::(zhC r.Table++46::zhC r.Seq)
def fnT (f:Int):List UInt8:=if f=0 then [67,79,85,78,84] else if f=1 then [83,85,77] else if f=2 then [77,73,78] else [77,65,88]
def opT (o:Int):List UInt8:=if o=5 then [61] else if o=6 then [60,62] else if o=7 then [60] else if o=8 then [60,61] else if o=9 then [62] else [62,61]
def zFD (ts:List (List UInt8)):List UInt8:=if ts=[] then [48] else zej ts [32,43,32]
def zIy (c:Int) (fs:List (List UInt8)):List UInt8:=if fs=[] then zhC c else if c=1 then zej fs [42] else zhC c++42::zej fs [42]
def zCW (x:List UInt8) (e:Int):List UInt8:=if e=1 then x else x++94::zhC e
def zcT (k:Int) (r:RowID) (xs:List (List UInt8)) (f:Int) (is:List (List UInt8)) (o:Int) (b:Value):List UInt8:=
 if k=0 then txR r
 else if k=1 then [109,111,110,117,115,91]++(xs.getD 0 []++([44,32]++(xs.getD 1 []++[93])))
 else if k=2 then [100,101,108,116,97,91]++(xs.getD 0 []++[93])
 else if k=3 then [97,98,115,101,110,116,91]++(xs.getD 0 []++[93])
 else [116,101,115,116,91]++(fnT f++([123]++(zej is [59,32]++([125,32]++(opT o++([32]++(txV b++[93])))))))
mutual
def txA:Atom→List UInt8
 | ⟨k,r,a,f,i,o,b⟩=>zcT k r (txAs a) f (txIs i) o b
def txFs:List Factor→List (List UInt8)
 | []=>[]
 | ⟨x,e⟩::l=>zCW (txA x) e::txFs l
def txTs:List Term→List (List UInt8)
 | []=>[]
 | ⟨c,fs⟩::l=>zIy c (txFs fs)::txTs l
def txAs:List (List Term)→List (List UInt8)
 | []=>[]
 | a::l=>zFD (txTs a)::txAs l
def txIs:List Weighted→List (List UInt8)
 | []=>[]
 | ⟨v,a⟩::l=>(txV v++([58,32]++zFD (txTs a)))::txIs l
end
def txF (f:Factor):List UInt8:=zCW (txA f.Atom) f.Exp
def txT (t:Term):List UInt8:=zIy t.Coeff (txFs t.Factors)
def txN (a:List Term):List UInt8:=zFD (txTs a)
def txI (w:Weighted):List UInt8:=txV w.Value++([58,32]++txN w.Ann)
theorem zsX:∀ l,txFs l=l.map txF
 | []=>by rw [txFs]; rfl
 | x::r=>by rw [txFs,zsX r]; rfl
theorem zFx:∀ l,txTs l=l.map txT
 | []=>by rw [txTs]; rfl
 | x::r=>by rw [txTs,zFx r]; rfl
theorem zkt:∀ l,txAs l=l.map txN
 | []=>by rw [txAs]; rfl
 | x::r=>by rw [txAs,zkt r]; rfl
theorem zCu:∀ l,txIs l=l.map txI
 | []=>by rw [txIs]; rfl
 | x::r=>by rw [txIs,zCu r]; rfl
theorem zVp (x:Atom):txA x=zcT x.Kind x.Row (txAs x.Args) x.Func (txIs x.Items) x.Op x.Bound:=by cases x; rw [txA]
def txL (l:List Factor):List UInt8:=zej (txFs l) [42]
theorem zEX {v:Value} (h:valV v=true):(txV v).length≤512:=by
 have ht:=zp4 h
 unfold txV
 have h1:=zmx v.Int
 have h2:=zMi v.Text.data.toList
 have h3:v.Text.data.toList.length=v.Text.size:=by rw [Array.length_toList]; rfl
 split
 ·omega
 ·split
  ·simp only [List.length_cons,List.length_append,List.length_nil]; omega
  ·split <;>simp
theorem zUY (r:RowID):(txR r).length≤44:=by
 have h1:=zmx r.Table
 have h2:=zmx r.Seq
 simp only [txR,List.length_cons,List.length_append]; omega
theorem zQj (f:Int):(fnT f).length≤5:=by unfold fnT; (repeat' split) <;>simp
theorem zQo (f:Int):(opT f).length≤2:=by unfold opT; (repeat' split) <;>simp
theorem zFj {α:Type} (t:α→List UInt8) (m:α→Nat) (s:List UInt8):∀ l:List α,(∀ x∈l,(t x).length+s.length≤m x)→(zej (l.map t) s).length≤(l.map m).sum
 | [],_=>by simp [zej]
 | [x],h=>by
  have:=h x (by simp)
  simp only [List.map,zej,List.sum_cons,List.sum_nil]; omega
 | x::y::r,h=>by
  have h1:=h x (by simp)
  have h2:=zFj t m s (y::r) fun z hz=>h z (List.mem_cons_of_mem _ hz)
  simp only [List.map,zej,List.length_append,List.sum_cons] at h2 ⊢
  omega
theorem zJk:∀ l:List Factor,(l.map fun f=>1000+1000*zeC f.Atom).sum=1000*(l.length+zbs l)
 | []=>by rw [zhw]; rfl
 | f::r=>by rw [List.map_cons,List.sum_cons,zJk r,zcB,List.length_cons]; omega
theorem zMG:∀ l:List Term,(l.map fun t=>1000+1000*(t.Factors.length+zbs t.Factors)).sum=1000*zI l
 | []=>by rw [zqb]; rfl
 | f::r=>by rw [List.map_cons,List.sum_cons,zMG r,zeV]; omega
theorem zML:∀ l:List Weighted,(l.map fun t=>1000+1000*zI t.Ann).sum=1000*zcJ l
 | []=>by rw [zeR]; rfl
 | f::r=>by rw [List.map_cons,List.sum_cons,zML r,zhe]; omega
theorem zUU {x:Atom} {e:Int} (h:(txA x).length≤700+1000*zeC x):(zCW (txA x) e).length+1≤1000+1000*zeC x:=by
 have:=zmx e
 unfold zCW
 split
 ·omega
 ·simp only [List.length_append,List.length_cons]; omega
theorem zOf {l:List Factor} (h:∀ f∈l,(txA f.Atom).length≤700+1000*zeC f.Atom):(txL l).length≤1000*(l.length+zbs l):=by
 unfold txL
 rw [zsX, ← zJk]
 exact zFj txF (fun f=>1000+1000*zeC f.Atom) [42] l fun f hf=>zUU (h f hf)
theorem zIY:∀ (m:Nat),(∀ a,z7 m a=true→(txN a).length≤1+1000*zI a)∧(∀ x,zcO (z7 m) x=true→(txA x).length≤700+1000*zeC x)
 | m=>by
  have hA:∀ (V:List Term→Bool),(∀ a,V a=true→(txN a).length≤1+1000*zI a)→∀ x,zcO V x=true→(txA x).length≤700+1000*zeC x:=by
   intro V hV x hx
   rw [zf6]
   cases zcq.1 hx with
   | var r h=>
    rw [txA]; have:=zUY r
    simp only [zcT,if_true]; omega
   | mon a b ha hb _ _ _=>
    have h1:=hV a ha; have h2:=hV b hb
    rw [txA,zkt]
    simp only [zcT,zeq,zfC,zeR,List.map,List.getD_cons_zero,List.getD_cons_succ,List.length_append,List.length_cons,List.length_nil]
    simp only [show ¬ (1:Int)=0 by decide,if_false,if_true,List.length_append,List.length_cons,List.length_nil]
    omega
   | del a ha _ _ _=>
    have h1:=hV a ha
    rw [txA,zkt]
    simp only [zcT,zeq,zfC,zeR,List.map,List.getD_cons_zero]
    simp only [show ¬ (2:Int)=0 by decide,show ¬ (2:Int)=1 by decide,if_false,if_true,List.length_append,List.length_cons,List.length_nil]
    omega
   | abs a ha _ _=>
    have h1:=hV a ha
    rw [txA,zkt]
    simp only [zcT,zeq,zfC,zeR,List.map,List.getD_cons_zero]
    simp only [show ¬ (3:Int)=0 by decide,show ¬ (3:Int)=1 by decide,show ¬ (3:Int)=2 by decide,if_false,if_true,List.length_append,List.length_cons,List.length_nil]
    omega
   | tst f l o b hl hi hs hf=>
    obtain ⟨_,hb,hit⟩:=zoj hf
    have h1:=zQj f; have h2:=zQo o; have h3:=zEX hb
    have h4:(zej (l.map txI) [59,32]).length≤1000*zcJ l:=by
     rw [← zML]
     refine zFj txI (fun w=>1000+1000*zI w.Ann) [59,32] l fun w hw=> ?_
     have h5:=hV _ (hi w hw).1; have h6:=zEX (hit w hw).1
     simp only [txI,List.length_append,List.length_cons,List.length_nil]; omega
    rw [txA,zCu]
    simp only [zcT,zfC]
    simp only [show ¬ (4:Int)=0 by decide,show ¬ (4:Int)=1 by decide,show ¬ (4:Int)=2 by decide,show ¬ (4:Int)=3 by decide,if_false,List.length_append,List.length_cons,List.length_nil]
    omega
  have hN:∀ a,z7 m a=true→(txN a).length≤1+1000*zI a:=by
   induction m with
   | zero=>intro a h; cases h
   | succ m ih=>
    intro a h
    unfold txN zFD
    split
    ·simp
    ·rw [zFx, ← zMG]
     refine Nat.le_trans (zFj txT (fun t=>1000+1000*(t.Factors.length+zbs t.Factors)) [32,43,32] a fun t ht=> ?_) (Nat.le_add_left _ _)
     have hok:=(zpM h ht).2
     have h5:=zOf (l:=t.Factors) fun f hf=>hA _ ih _ (zmf hok hf).2
     have h6:=zmx t.Coeff
     have e:(zej (txFs t.Factors) [42]).length=(txL t.Factors).length:=rfl
     unfold txT zIy
     simp only [List.length_cons,List.length_nil]
     split
     ·omega
     ·split
      ·omega
      ·simp only [List.length_append,List.length_cons]; omega
  exact ⟨hN,hA _ hN⟩
theorem zkw {n:Int} (h:wf3 n): -9223372036854775808≤n∧n≤9223372036854775807:=by
 have h:(Lit.int .i64 n).wf=true:=h
 have:IntKind.i64.min≤n∧n≤IntKind.i64.max:=by simpa [Lit.wf] using h
 exact ⟨this.1,this.2⟩
def rng (n:Int):Prop:= -9223372036854775808≤n∧n≤9223372036854775807
instance (n:Int):Decidable (rng n):=by unfold rng; infer_instance
theorem zKa {n:Int} (h:rng n):strconv_Itoa n=(true,bs (zhC n)):=by
 unfold strconv_Itoa zFQ zCV
 rw [decide_eq_true h.1,decide_eq_true h.2]; rfl
theorem zQw {n:Int} (h:rng n):zh2 n 10=(true,bs (zhC n)):=by
 unfold zh2 zqg zCV
 rw [decide_eq_true h.1,decide_eq_true h.2]; rfl
theorem okS (n m:Nat) (h:n+m≤9223372036854775807):decide (n+m≤9223372036854775807)=true:=decide_eq_true h
theorem zTt {r:RowID} (h:zrn r=true) (h1:rng r.Table) (h2:rng r.Seq):zqz r=(true,bs (txR r)):=by
 unfold zqz zwH txR
 have l1:=zmx r.Table
 have l2:=zmx r.Seq
 rw [show ByteArray.mk #[(116:UInt8)]=bs [116] from rfl,show ByteArray.mk #[(46:UInt8)]=bs [46] from rfl]
 simp only [Wy.fin_bn,Wy.fin_i,Wy.fin_k,zwy,h,zKa h1,zKa h2,cond_true,cond_false,Bool.not_true,zwX,zpz,List.length_append,List.length_cons,List.length_nil]
 rw [okS _ _ (by omega),okS _ _ (by omega),okS _ _ (by omega)]
 simp
theorem zO2 {v:Value} (h:valV v=true) (hr:rng v.Int):zpt v=(true,bs (txV v)):=by
 unfold zpt zxD txV strings_ReplaceAll
 have ht:=zp4 h
 rw [show ByteArray.mk #[(39:UInt8)]=bs [39] from rfl,show ByteArray.mk #[(39:UInt8),(39:UInt8)]=bs [39,39] from rfl]
 simp only [Wy.fin_bn,Wy.fin_i,Wy.fin_k,zxC,h,zQw hr,zMn _ ht,cond_true,cond_false,Bool.not_true,zwX,zpz,List.length_append,List.length_cons,List.length_nil]
 have h2:=zMi v.Text.data.toList
 have h3:v.Text.data.toList.length=v.Text.size:=by rw [Array.length_toList]; rfl
 rw [okS _ _ (by omega),okS _ _ (by omega)]
 by_cases k0:v.Kind=0
 ·simp [k0]
 by_cases k1:v.Kind=1
 ·simp [k1]
 simp only [beqd,k0,k1,decide_false,cond_false,if_false]
 by_cases i1:v.Int=1
 ·simp only [i1,decide_true,cond_true,if_true]; rfl
 ·simp only [i1,decide_false,cond_false,if_false]; rfl
theorem zT8 {f:Int} (h0:0≤f) (h3:f≤3):(decide ((0:Int)≤f)&&decide (f<Int.ofNat zbL.snd.length))=true∧zbL.snd.getD f.toNat default=bs (fnT f):=by
 have hc:f=0∨f=1∨f=2∨f=3:=by omega
 rcases hc with rfl | rfl | rfl | rfl <;>exact ⟨rfl,rfl⟩
theorem zVb {o:Int} (h0:5≤o) (h3:o≤10):(decide ((0:Int)≤IntKind.i64.wrap (o - 5))&&decide (IntKind.i64.wrap (o - 5)<Int.ofNat zc8.snd.length))=true∧zc8.snd.getD (IntKind.i64.wrap (o - 5)).toNat default=bs (opT o):=by
 have hc:o=5∨o=6∨o=7∨o=8∨o=9∨o=10:=by omega
 rcases hc with rfl | rfl | rfl | rfl | rfl | rfl <;>exact ⟨rfl,rfl⟩
theorem zJD {m:Nat} {x:Atom} (h:zcO (z7 m) x=true) (hi:x.Items.length≤1024):zeC x≤4195328:=by
 rw [zf6]
 cases zcq.1 h with
 | var r h=>rw [zfC,zeR]; omega
 | mon a b ha hb _ _ _=>
  have h1:=(zew ha).2.1; have h2:=(zew hb).2.1
  simp only [zeq,zfC,zeR]; omega
 | del a ha _ _ _=>
  have h1:=(zew ha).2.1
  simp only [zeq,zfC,zeR]; omega
 | abs a ha _ _=>
  have h1:=(zew ha).2.1
  simp only [zeq,zfC,zeR]; omega
 | tst f l o b hl hv hs hf=>
  have h1:∀ l:List Weighted,(∀ w∈l,zI w.Ann≤4096)→zcJ l≤l.length*4097:=fun l=>by
   induction l with
   | nil=>intro _; rw [zeR]; omega
   | cons w r ih=>
    intro h
    have:=h w (by simp)
    have:=ih fun w hw=>h w (by simp [hw])
    rw [zhe,List.length_cons,Nat.add_mul]; omega
  have:=h1 l fun w hw=>(zew (hv w hw).1).2.1
  have:=Nat.mul_le_mul hi (Nat.le_refl 4097)
  simp only [zfC] at this ⊢; omega
section
variable (gA:Atom→Bool×ByteArray) (gF:List Factor→Bool×ByteArray) (gT:List Term→Bool×ByteArray)
theorem zVl (l:List Factor) (hl:l.length≤1000) (hg:∀ f∈l,gA f.Atom=(true,bs (txA f.Atom))∧(txA f.Atom).length≤4200000000∧rng f.Exp):zfw gA l=(true,bs (txL l)):=by
 have hreach:zK=70368744177664:=rfl
 unfold zfw zkz
 have:=zdB (W:=zgG gA) (z:=default) l.length (fun i=>((),l,(l.length:Int),(i:Int),())) (fun i=>((l.take i).map fun f=>bs (txF f),())) (fun _=>true) default (l.map fun f=>bs (txF f))
  (fun i hi H K D=>by
   show (zeE gA l l.length i ((l.take i).map fun f=>bs (txF f))).ev H K D=_
   unfold zeE
   obtain ⟨h1,h2,h3⟩:=hg _ (zp hi)
   have l1:=zmx (l.getD i default).Exp
   rw [show ByteArray.mk #[(94:UInt8)]=bs [94] from rfl]
   simp only [Atom.eta,Wy.ev_i,Wy.ev_k,Wy.ev_h,Wy.ev_bn,Wy.ev_d,tT,hi,h1,zKa h3,zwX,zpz,List.length_append,List.length_cons,List.length_nil]
   rw [okS _ _ (by omega),okS _ _ (by omega),zM (by omega),ziJ hi,List.map_append]
   have hb:decide ((((l.take i).map fun f=>bs (txF f)).length+1)*16≤zK)=true:=by simp only [decide_eq_true_eq,List.length_map,List.length_take]; omega
   generalize ((l.take i).map fun f=>bs (txF f))=out at hb ⊢
   have hb':decide ((out.length+(0+1))*16≤zK)=true:=hb
   simp only [hb,hb',cond_true,List.map_cons,List.map_nil,txF,zCW,bne0]
   by_cases he:(l.getD i default).Exp=1
   ·simp only [he,decide_true,Bool.not_true,cond_false,if_true]
   ·simp only [he,decide_false,Bool.not_false,cond_true,if_false,List.singleton_append])
  (fun H K D=>by
   show (zeE gA l l.length l.length ((l.take l.length).map fun f=>bs (txF f))).ev H K D=_
   unfold zeE
   simp only [Wy.ev_i,Wy.ev_k,tT,Nat.lt_irrefl,List.take_length]) (l.length+(Int.ofNat l.length).toNat +Int.toNat (0:Int)+(0:Nat)+(1:Nat)) (by omega)
 rw [show allN (fun _=>true) l.length 0=true from zd8.2 fun _ _ _=>rfl] at this
 have e:zoJ gA (l.length+(Int.ofNat l.length).toNat +Int.toNat (0:Int)+(0:Nat)+(1:Nat)) l (Int.ofNat l.length) (0:Int) []=(true,(l.map txF).map bs):=by rw [List.map_map]; exact this
 have hlen:(zej (l.map txF) [42]).length≤140737488355328:=by
  refine Nat.le_trans (zHn (B:=4200001000) (l.map txF) [42] fun x hx=> ?_) (by
   rw [List.length_map]; have:=Nat.mul_le_mul hl (Nat.le_refl 4200001000); omega)
  obtain ⟨f,hf,rfl⟩:=List.mem_map.1 hx
  have:=(hg f hf).2.1
  have:=zmx f.Exp
  unfold txF zCW
  split
  ·simp only [List.length_cons,List.length_nil]; omega
  ·simp only [List.length_append,List.length_cons,List.length_nil]; omega
 rw [Wy.fin_bn,e,show ByteArray.mk #[(42:UInt8)]=bs [42] from rfl]
 unfold strings_Join
 simp only [cond_true,Wy.fin_bn,Wy.fin_k,zJU _ _ (by rw [List.length_map]; omega) hlen]
 unfold txL
 rw [zsX]
theorem zVE (a:List Term) (hl:a.length≤1000) (hlen:(txN a).length≤140737488355328) (hg:∀ t∈a,gF t.Factors=(true,bs (txL t.Factors))∧(txL t.Factors).length≤4200000000∧rng t.Coeff):zlZ gF a=(true,bs (txN a)):=by
 have hreach:zK=70368744177664:=rfl
 unfold zlZ zq7
 by_cases h0:a=[]
 ·subst h0
  have e:txN []=[48]:=by unfold txN; rw [txTs]; rfl
  rw [e]; rfl
 have hne:(Int.ofNat a.length==(0:Int))=false:=by
  rw [beq_eq_false_iff_ne]; intro e
  have:(a.length:Int)=0:=e
  exact h0 (List.length_eq_zero_iff.1 (by omega))
 have:=zdB (W:=zmi gF) (z:=default) a.length (fun i=>((),a,(a.length:Int),(i:Int),())) (fun i=>((a.take i).map fun f=>bs (txT f),())) (fun _=>true) default (a.map fun f=>bs (txT f))
  (fun i hi H K D=>by
   show (zjl gF a a.length i ((a.take i).map fun f=>bs (txT f))).ev H K D=_
   unfold zjl
   obtain ⟨h1,h2,h3⟩:=hg _ (zp hi)
   have l1:=zmx (a.getD i default).Coeff
   rw [show ByteArray.mk #[(42:UInt8)]=bs [42] from rfl]
   have hL:decide ((i:Int)<(a.length:Int))=true:=by simp [hi]
   have hL':decide ((i:Int)<Int.ofNat a.length)=true:=hL
   simp only [Wy.ev_i,Wy.ev_k,Wy.ev_h,Wy.ev_bn,Wy.ev_d,hL,hL',zez,Bool.and_self,cond_true,Int.toNat_natCast,h1,zQw h3,zwX,zpz,List.length_append,List.length_cons,List.length_nil,show (Int.ofNat (a.getD i default).Factors.length==(0:Int))=((a.getD i default).Factors.length==0) from zp9 _ 0]
   rw [okS _ _ (by omega),okS _ _ (by omega),zM (by omega),ziJ hi,List.map_append]
   have hb:decide ((((a.take i).map fun f=>bs (txT f)).length+1)*16≤zK)=true:=by simp only [decide_eq_true_eq,List.length_map,List.length_take]; omega
   generalize ((a.take i).map fun f=>bs (txT f))=out at hb ⊢
   have hb':decide ((out.length+(0+1))*16≤zK)=true:=hb
   simp only [hb,hb',cond_true,List.map_cons,List.map_nil,txT,zIy,beqd]
   have e0:(txFs (a.getD i default).Factors=[])↔(a.getD i default).Factors.length=0:=by
    rw [zsX,List.map_eq_nil_iff,List.length_eq_zero_iff]
   by_cases hf:(a.getD i default).Factors.length=0
   ·rw [if_pos (e0.2 hf),hf]; rfl
   ·rw [if_neg (fun e=>hf (e0.1 e)),beqn,decide_eq_false hf]
    by_cases he:(a.getD i default).Coeff=1
    ·simp only [he,decide_true,cond_true,cond_false,if_true,txL]
    ·simp only [he,decide_false,cond_false,if_false,txL,List.append_assoc,List.singleton_append])
  (fun H K D=>by
   show (zjl gF a a.length a.length ((a.take a.length).map fun f=>bs (txT f))).ev H K D=_
   unfold zjl
   simp only [Wy.ev_i,Wy.ev_k,tT,Nat.lt_irrefl,List.take_length]) (a.length+(Int.ofNat a.length).toNat +Int.toNat (0:Int)+(0:Nat)+(1:Nat)) (by omega)
 rw [show allN (fun _=>true) a.length 0=true from zd8.2 fun _ _ _=>rfl] at this
 have e:zwT gF (a.length+(Int.ofNat a.length).toNat +Int.toNat (0:Int)+(0:Nat)+(1:Nat)) a (Int.ofNat a.length) (0:Int) []=(true,(a.map txT).map bs):=by rw [List.map_map]; exact this
 have ex:txN a=zej (a.map txT) [32,43,32]:=by
  unfold txN zFD
  rw [zFx,if_neg (by simpa using h0)]
 rw [ex] at hlen ⊢
 rw [Wy.fin_i,hne,cond_false,Wy.fin_bn,e,show ByteArray.mk #[(32:UInt8),(43:UInt8),(32:UInt8)]=bs [32,43,32] from rfl]
 unfold strings_Join
 simp only [cond_true,Wy.fin_bn,Wy.fin_k,zJU _ _ (by rw [List.length_map]; omega) hlen]
theorem zVT {V:List Term→Bool} (x:Atom) (hx:zcO V x=true) (hw:zfm x) (hi:x.Items.length≤1024) (hg:∀ a,(a∈x.Args∨∃ w∈x.Items,a=w.Ann)→gT a=(true,bs (txN a))∧(txN a).length≤4200000000):zhQ gT x=(true,bs (txA x)):=by
 have hreach:zK=70368744177664:=rfl
 have W:=zmk hw
 unfold zhQ zmd
 rw [zVp]
 cases zcq.1 hx with
 | var r h=>
  have hr:=W.2.2.2.2.1
  simp only [Wy.fin_bn,Wy.fin_i,Wy.fin_k,zTt h (zkw hr.1) (zkw hr.2)]
  simp [zcT]
 | mon a b ha hb _ _ _=>
  obtain ⟨g1,l1⟩:=hg a (.inl (by simp))
  obtain ⟨g2,l2⟩:=hg b (.inl (by simp))
  rw [zkt]
  simp only [List.map,zcT,List.getD_cons_zero,List.getD_cons_succ,show ¬ (1:Int)=0 by decide,if_false,if_true]
  rw [show ByteArray.mk #[(109:UInt8),(111:UInt8),(110:UInt8),(117:UInt8),(115:UInt8),(91:UInt8)]=bs [109,111,110,117,115,91] from rfl,show ByteArray.mk #[(44:UInt8),(32:UInt8)]=bs [44,32] from rfl,show ByteArray.mk #[(93:UInt8)]=bs [93] from rfl]
  simp only [cond_true,cond_false,Wy.fin_i,Wy.fin_bn,Wy.fin_k,show ((1:Int)==0)=false from rfl,show ((1:Int)==1)=true from rfl,show (decide ((0:Int)≤0)&&decide ((0:Int)<Int.ofNat [a,b].length))=true from rfl,show (decide ((0:Int)≤1)&&decide ((1:Int)<Int.ofNat [a,b].length))=true from rfl,show [a,b].getD (Int.toNat 0) default=a from rfl,show [a,b].getD (Int.toNat 1) default=b from rfl,g1,g2,zwX,zpz,List.length_append,List.length_cons,List.length_nil]
  rw [okS _ _ (by omega),okS _ _ (by omega),okS _ _ (by omega),okS _ _ (by omega)]
  simp
 | del a ha _ _ _=>
  obtain ⟨g1,l1⟩:=hg a (.inl (by simp))
  rw [zkt]
  simp only [List.map,zcT,List.getD_cons_zero,show ¬ (2:Int)=0 by decide,show ¬ (2:Int)=1 by decide,if_false,if_true]
  rw [show ByteArray.mk #[(100:UInt8),(101:UInt8),(108:UInt8),(116:UInt8),(97:UInt8),(91:UInt8)]=bs [100,101,108,116,97,91] from rfl,show ByteArray.mk #[(93:UInt8)]=bs [93] from rfl]
  simp only [cond_true,cond_false,Wy.fin_i,Wy.fin_bn,Wy.fin_k,show ((2:Int)==0)=false from rfl,show ((2:Int)==1)=false from rfl,show ((2:Int)==2)=true from rfl,show (decide ((0:Int)≤0)&&decide ((0:Int)<Int.ofNat [a].length))=true from rfl,show [a].getD (Int.toNat 0) default=a from rfl,g1,zwX,zpz,List.length_append,List.length_cons,List.length_nil]
  rw [okS _ _ (by omega),okS _ _ (by omega)]
  simp
 | abs a ha _ _=>
  obtain ⟨g1,l1⟩:=hg a (.inl (by simp))
  rw [zkt]
  simp only [List.map,zcT,List.getD_cons_zero,show ¬ (3:Int)=0 by decide,show ¬ (3:Int)=1 by decide,show ¬ (3:Int)=2 by decide,if_false,if_true]
  rw [show ByteArray.mk #[(97:UInt8),(98:UInt8),(115:UInt8),(101:UInt8),(110:UInt8),(116:UInt8),(91:UInt8)]=bs [97,98,115,101,110,116,91] from rfl,show ByteArray.mk #[(93:UInt8)]=bs [93] from rfl]
  simp only [cond_true,cond_false,Wy.fin_i,Wy.fin_bn,Wy.fin_k,show ((3:Int)==0)=false from rfl,show ((3:Int)==1)=false from rfl,show ((3:Int)==2)=false from rfl,show ((3:Int)==3)=true from rfl,show (decide ((0:Int)≤0)&&decide ((0:Int)<Int.ofNat [a].length))=true from rfl,show [a].getD (Int.toNat 0) default=a from rfl,g1,zwX,zpz,List.length_append,List.length_cons,List.length_nil]
  rw [okS _ _ (by omega),okS _ _ (by omega)]
  simp
 | tst f l o b hl hv hs hf=>
  obtain ⟨⟨f0,f3,o5,o10⟩,hb,hit⟩:=zoj hf
  have hwl:=zhd W.2.1.1
  have hwb:rng b.Int:=zkw W.2.2.1.2.1
  have:=zdB (W:=zh9 gT) (z:=default) l.length (fun i=>((),(),l,(l.length:Int),(i:Int),())) (fun i=>((⟨4,⟨0,0⟩,[],f,l,o,b⟩:Atom),(l.take i).map fun w=>bs (txI w),())) (fun _=>true) default ((⟨4,⟨0,0⟩,[],f,l,o,b⟩:Atom),l.map fun w=>bs (txI w))
   (fun i hi' H K D=>by
    show (ze7 gT l l.length i (⟨4,⟨0,0⟩,[],f,l,o,b⟩:Atom) ((l.take i).map fun w=>bs (txI w))).ev H K D=_
    unfold ze7
    have hm:=zp hi'
    obtain ⟨g1,l1⟩:=hg _ (.inr ⟨_,hm,rfl⟩)
    have l2:=zEX (hit _ hm).1
    rw [show ByteArray.mk #[(58:UInt8),(32:UInt8)]=bs [58,32] from rfl]
    simp only [Wy.ev_i,Wy.ev_k,Wy.ev_h,Wy.ev_bn,Wy.ev_d,tT,hi',zO2 (hit _ hm).1 (zkw (hwl _ hm).1.2.1),g1,zwX,zpz,List.length_append,List.length_cons,List.length_nil]
    rw [okS _ _ (by omega),okS _ _ (by omega),zM (by simp only at hi; omega),ziJ hi',List.map_append]
    have hb:decide ((((l.take i).map fun w=>bs (txI w)).length+1)*16≤zK)=true:=by simp only at hi; simp only [decide_eq_true_eq,List.length_map,List.length_take]; omega
    generalize ((l.take i).map fun w=>bs (txI w))=out at hb ⊢
    have hb':decide ((out.length+(0+1))*16≤zK)=true:=hb
    simp only [hb,hb',cond_true,List.map_cons,List.map_nil,txI,List.append_assoc])
   (fun H K D=>by
    show (ze7 gT l l.length l.length (⟨4,⟨0,0⟩,[],f,l,o,b⟩:Atom) ((l.take l.length).map fun w=>bs (txI w))).ev H K D=_
    unfold ze7
    simp only [Wy.ev_i,Wy.ev_k,tT,Nat.lt_irrefl,List.take_length]) (l.length+(Int.ofNat l.length).toNat +Int.toNat (0:Int)+([]:List (List Term)).length+l.length+(0:Nat)+(1:Nat)) (by omega)
  rw [show allN (fun _=>true) l.length 0=true from zd8.2 fun _ _ _=>rfl] at this
  have e:zpV gT (l.length+(Int.ofNat l.length).toNat +Int.toNat (0:Int)+([]:List (List Term)).length+l.length+(0:Nat)+(1:Nat)) l (Int.ofNat l.length) (0:Int) (⟨4,⟨0,0⟩,[],f,l,o,b⟩:Atom) []=(true,((⟨4,⟨0,0⟩,[],f,l,o,b⟩:Atom),(l.map txI).map bs)):=by rw [List.map_map]; exact this
  simp only at hi
  have hlen:(zej (l.map txI) [59,32]).length≤5000000000000:=by
   refine Nat.le_trans (zHn (B:=4200001000) (l.map txI) [59,32] fun y hy=> ?_) (by
    rw [List.length_map]; have:=Nat.mul_le_mul hi (Nat.le_refl 4200001000); omega)
   obtain ⟨w,hw,rfl⟩:=List.mem_map.1 hy
   have h1:=(hg _ (.inr ⟨w,hw,rfl⟩)).2
   have h2:=zEX (hit w hw).1
   simp only [txI,List.length_append,List.length_cons,List.length_nil]; omega
  have l3:=zQj f
  have l4:=zQo o
  have l5:=zEX hb
  rw [zCu]
  simp only [zcT,show ¬ (4:Int)=0 by decide,show ¬ (4:Int)=1 by decide,show ¬ (4:Int)=2 by decide,show ¬ (4:Int)=3 by decide,if_false]
  rw [show ByteArray.mk #[(116:UInt8),(101:UInt8),(115:UInt8),(116:UInt8),(91:UInt8)]=bs [116,101,115,116,91] from rfl,show ByteArray.mk #[(123:UInt8)]=bs [123] from rfl,show ByteArray.mk #[(125:UInt8),(32:UInt8)]=bs [125,32] from rfl,show ByteArray.mk #[(59:UInt8),(32:UInt8)]=bs [59,32] from rfl,show ByteArray.mk #[(32:UInt8)]=bs [32] from rfl,show ByteArray.mk #[(93:UInt8)]=bs [93] from rfl]
  simp only [Wy.fin_i,show ((4:Int)==0)=false from rfl,show ((4:Int)==1)=false from rfl,show ((4:Int)==2)=false from rfl,show ((4:Int)==3)=false from rfl,cond_false]
  unfold strings_Join
  obtain ⟨fb,ft⟩:=zT8 f0 f3
  obtain ⟨ob,ot⟩:=zVb o5 o10
  rw [e,zI5]
  simp only [Wy.fin_i,Wy.fin_k,Wy.fin_bn,fb,ft,ob,ot,zJU _ _ (show (l.map txI).length≤140737488355328 by rw [List.length_map]; omega) (show (zej (l.map txI) [59,32]).length≤140737488355328 by omega),zO2 hb hwb,cond_true,zwX,zpz,List.length_append,List.length_cons,List.length_nil]
  rw [okS _ _ (by omega),okS _ _ (by omega),okS _ _ (by omega),okS _ _ (by omega),okS _ _ (by omega),okS _ _ (by omega),okS _ _ (by omega),okS _ _ (by omega)]
  simp
end
theorem zOA:∀ n,
  (∀ m a,z7 m a=true→zfz a→3*m≤n→zlU n a=(true,bs (txN a)))∧
  (∀ m x,zcO (z7 m) x=true→zfm x→x.Items.length≤1024→3*m+1≤n→zj4 n x=(true,bs (txA x)))∧
  (∀ m (l:List Factor),l.length≤1000→(∀ f∈l,zcO (z7 m) f.Atom=true∧zfm f.Atom∧f.Atom.Items.length≤1024∧rng f.Exp)→3*m+2≤n→zfu n l=(true,bs (txL l)))
 | 0=>by
  refine ⟨?_, ?_, ?_⟩
  ·intro m a h _ hm; have:m=0:=by omega
   subst this; cases h
  all_goals (intros; omega)
 | n+1=>by
  obtain ⟨h1,h2,h3⟩:=zOA n
  refine ⟨?_, ?_, ?_⟩
  ·intro m a h hw hm
   cases m with
   | zero=>cases h
   | succ m=>
    have hl:=zqx (zzc h)
    have hlen:=(zIY (m+1)).1 a h
    rw [zFM]
    refine zVE _ a (by omega) (by omega) fun t ht=> ?_
    obtain ⟨⟨c1,c2⟩,hok⟩:=zpM h ht
    obtain ⟨q1,q2⟩:=hl.2.2.2 t ht
    have hwt:=zlA (zqw (zoh hw t ht)).2.1
    refine ⟨h3 m t.Factors (by omega) (fun f hf=> ?_) (by omega), ?_,by constructor <;>omega⟩
    ·obtain ⟨⟨e1,_⟩,hv⟩:=zmf hok hf
     exact ⟨hv,(zmZ (hwt f hf)).1,(q2 f hf).2,by have:=(q2 f hf).1; constructor <;>omega⟩
    ·refine Nat.le_trans (zOf fun f hf=>(zIY m).2 _ (zmf hok hf).2) ?_
     have hs:t.Factors.length+zbs t.Factors≤zI a:=by
      clear hok q1 q2 hwt hw h hlen hl
      induction a with
      | nil=>cases ht
      | cons b r ih=>
       rw [zeV]
       rcases List.mem_cons.1 ht with rfl | ht
       ·omega
       ·have:=ih ht; omega
     omega
  ·intro m x h hw hi hm
   rw [zzP]
   have W:=zmk hw
   refine zVT _ x h hw hi fun a ha=> ?_
   have hv:z7 m a=true∧zfz a:=by
    rcases ha with ha | ⟨w,hw',rfl⟩
    ·refine ⟨?_,(ziy W.1.1 a ha).1⟩
     cases zcq.1 h with
     | var r h=>cases ha
     | mon b c hb hc _ _ _=>
      simp only [List.mem_cons,List.not_mem_nil,or_false] at ha
      rcases ha with rfl | rfl
      ·exact hb
      ·exact hc
     | del b hb _ _ _=>rw [List.mem_singleton] at ha; subst ha; exact hb
     | abs b hb _ _=>rw [List.mem_singleton] at ha; subst ha; exact hb
     | tst f l o b hl hi hs hf=>cases ha
    ·refine ⟨?_,(zhd W.2.1.1 w hw').2.1⟩
     cases zcq.1 h with
     | tst f l o b hl hi2 hs hf=>exact (hi2 w hw').1
     | _=>cases hw'
   refine ⟨h1 m a hv.1 hv.2 (by omega), ?_⟩
   have q1:=(zIY m).1 a hv.1
   have q2:=(zew hv.1).2.1
   omega
  ·intro m l hl h hm
   rw [zw0]
   refine zVl _ l hl fun f hf=> ?_
   obtain ⟨q1,q2,q3,q4⟩:=h f hf
   refine ⟨h2 m f.Atom q1 q2 q3 (by omega), ?_,q4⟩
   have q5:=(zIY m).2 f.Atom q1
   have q6:=zJD q1 q3
   omega
def hd (S:List UInt8) (u:List UInt8):Prop:=∀ c,u.head? =some c→c∈S
theorem zmE {S:List UInt8} {c:UInt8} {u:List UInt8} (h:c∈S):hd S (c::u):=fun d hd=>by
 simp only [List.head?_cons,Option.some.injEq] at hd; subst hd; exact h
theorem hd.mono {S T:List UInt8} {u:List UInt8} (h:hd S u) (hs:∀ c∈S,c∈T):hd T u:=fun c hc=>hs c (h c hc)
theorem hd.noDig {S:List UInt8} {u:List UInt8} (h:hd S u) (hs:∀ c∈S,isDg c=false):noDig u:=fun c hc=>hs c (h c hc)
theorem hd.ne {S:List UInt8} {u:List UInt8} (h:hd S u) {c:UInt8} (hs:c∉S):u.head? ≠some c:=fun e=>hs (h c e)
theorem hd.cons_ne {S:List UInt8} {u:List UInt8} {c:UInt8} (h:hd S (c::u)) (hs:c∉S):False:=hs (h c rfl)
theorem zC2 {α:Type} (tx:α→List UInt8) (S0:List UInt8) (s0:UInt8) (sr:List UInt8) (P:α→Prop) (hS:s0∉S0) (hR:∀ x y,P x→P y→∀ u v,hd (s0::S0) u→hd (s0::S0) v→tx x++u=tx y++v→x=y∧u=v):
  ∀ l l':List α,l≠[]→l'≠[]→(∀ x∈l,P x)→(∀ x∈l',P x)→∀ u v,hd S0 u→hd S0 v→zej (l.map tx) (s0::sr)++u=zej (l'.map tx) (s0::sr)++v→l=l'∧u=v
 | [],_,h,_,_,_,_,_,_,_,_=>absurd rfl h
 | _::_,[],_,h,_,_,_,_,_,_,_=>absurd rfl h
 | [x],[y],_,_,hx,hy,u,v,hu,hv,h=>by
  have mono:∀ c∈S0,c∈s0::S0:=fun c hc=>List.mem_cons_of_mem _ hc
  obtain ⟨h1,h2⟩:=hR x y (hx x (by simp)) (hy y (by simp)) u v (hu.mono mono) (hv.mono mono) h
  exact ⟨by rw [h1],h2⟩
 | [x],y::y'::r',_,_,hx,hy,u,v,hu,hv,h=>by
  have mono:∀ c∈S0,c∈s0::S0:=fun c hc=>List.mem_cons_of_mem _ hc
  simp only [List.map,zej,List.append_assoc] at h
  obtain ⟨h1,h2⟩:=hR x y (hx x (by simp)) (hy y (by simp)) u _ (hu.mono mono) (zmE (by simp)) h
  rw [h2] at hu
  exact (hu.cons_ne hS).elim
 | x::x'::r,[y],_,_,hx,hy,u,v,hu,hv,h=>by
  have mono:∀ c∈S0,c∈s0::S0:=fun c hc=>List.mem_cons_of_mem _ hc
  simp only [List.map,zej,List.append_assoc] at h
  obtain ⟨h1,h2⟩:=hR x y (hx x (by simp)) (hy y (by simp)) _ v (zmE (by simp)) (hv.mono mono) h
  rw [← h2] at hv
  exact (hv.cons_ne hS).elim
 | x::x'::r,y::y'::r',_,_,hx,hy,u,v,hu,hv,h=>by
  have h:zej (((x::x'::r)).map tx) (s0::sr)++u=zej (((y::y'::r')).map tx) (s0::sr)++v:=h
  simp only [List.map,zej,List.append_assoc] at h
  obtain ⟨h1,h2⟩:=hR x y (hx x (by simp)) (hy y (by simp)) _ _ (zmE (by simp)) (zmE (by simp)) h
  have h3:=(List.append_right_inj sr).1 (List.cons.inj h2).2
  obtain ⟨h4,h5⟩:=zC2 tx S0 s0 sr P hS hR (x'::r) (y'::r') (by simp) (by simp) (fun z hz=>hx z (List.mem_cons_of_mem _ hz)) (fun z hz=>hy z (List.mem_cons_of_mem _ hz)) u v hu hv h3
  exact ⟨by rw [h1,h4],h5⟩
theorem zNB {t:ByteArray} (h:t.size=0):t=ByteArray.mk #[]:=zys (by
 have:t.data.toList.length=0:=by rw [Array.length_toList]; exact h
 rw [List.length_eq_zero_iff.1 this])
theorem zOq {x y:Value} (hx:valV x=true) (hy:valV y=true) (rx:rng x.Int) (ry:rng y.Int) {u v:List UInt8} (hu:hd [58,93] u) (hv:hd [58,93] v) (h:txV x++u=txV y++v):x=y∧u=v:=by
 have d1:∀ c∈([58,93]:List UInt8),isDg c=false:=by decide
 obtain ⟨cx,sx,ex,dx⟩:=zNd rx.1 rx.2
 obtain ⟨cy,sy,ey,dy⟩:=zNd ry.1 ry.2
 have nd:∀ c:UInt8,c=45∨isDg c=true→c≠39∧c≠84∧c≠70:=fun c hc=>by
  refine ⟨?_, ?_, ?_⟩ <;>(intro e; subst e; revert hc; decide)
 obtain ⟨kx,ix,tx⟩:=x
 obtain ⟨ky,iy,ty⟩:=y
 simp only [valV,Bool.or_eq_true,Bool.and_eq_true,beq_iff_eq,decide_eq_true_eq] at hx hy
 simp only at rx ry ex ey
 rcases hx with (⟨rfl,hx⟩ | ⟨⟨rfl,rfl⟩,hx⟩) | ⟨⟨rfl,hx⟩,hx2⟩
 ·have:=zNB hx; subst this
  rcases hy with (⟨rfl,hy⟩ | ⟨⟨rfl,rfl⟩,hy⟩) | ⟨⟨rfl,hy⟩,hy2⟩
  ·have:=zNB hy; subst this
   simp only [txV,if_true] at h
   obtain ⟨h1,h2⟩:=zpT rx ry (hu.noDig d1) (hv.noDig d1) h
   exact ⟨by rw [h1],h2⟩
  ·simp only [txV,if_true,show ¬ (1:Int)=0 by decide,if_false,ex,List.cons_append,List.cons.injEq] at h
   exact absurd h.1 (nd cx dx).1
  ·rcases hy2 with rfl | rfl
   ·simp only [txV,if_true,show ¬ (2:Int)=0 by decide,show ¬ (2:Int)=1 by decide,show ¬ (0:Int)=1 by decide,if_false,ex,List.cons_append,List.cons.injEq] at h
    exact absurd h.1 (nd cx dx).2.2
   ·simp only [txV,if_true,show ¬ (2:Int)=0 by decide,show ¬ (2:Int)=1 by decide,if_false,ex,List.cons_append,List.cons.injEq] at h
    exact absurd h.1 (nd cx dx).2.1
 ·rcases hy with (⟨rfl,hy⟩ | ⟨⟨rfl,rfl⟩,hy⟩) | ⟨⟨rfl,hy⟩,hy2⟩
  ·simp only [txV,if_true,show ¬ (1:Int)=0 by decide,if_false,ey,List.cons_append,List.cons.injEq] at h
   exact absurd h.1.symm (nd cy dy).1
  ·simp only [txV,if_true,show ¬ (1:Int)=0 by decide,if_false,List.cons_append,List.cons.injEq,true_and,List.append_assoc,List.nil_append] at h
   obtain ⟨h1,h2⟩:=zJ8 _ _ u v (hu.ne (by decide)) (hv.ne (by decide)) h
   exact ⟨by rw [zys h1],h2⟩
  ·rcases hy2 with rfl | rfl <;>simp [txV] at h
 ·have:=zNB hx; subst this
  rcases hy with (⟨rfl,hy⟩ | ⟨⟨rfl,rfl⟩,hy⟩) | ⟨⟨rfl,hy⟩,hy2⟩
  ·rcases hx2 with rfl | rfl
   ·simp only [txV,if_true,show ¬ (2:Int)=0 by decide,show ¬ (2:Int)=1 by decide,show ¬ (0:Int)=1 by decide,if_false,ey,List.cons_append,List.cons.injEq] at h
    exact absurd h.1.symm (nd cy dy).2.2
   ·simp only [txV,if_true,show ¬ (2:Int)=0 by decide,show ¬ (2:Int)=1 by decide,if_false,ey,List.cons_append,List.cons.injEq] at h
    exact absurd h.1.symm (nd cy dy).2.1
  ·rcases hx2 with rfl | rfl <;>simp [txV] at h
  ·have:=zNB hy; subst this
   rcases hx2 with rfl | rfl <;>rcases hy2 with rfl | rfl <;>simp [txV] at h
   ·exact ⟨rfl,h⟩
   ·exact ⟨rfl,h⟩
theorem zTj {f g:Int} (hf:0≤f∧f≤3) (hg:0≤g∧g≤3) {u v:List UInt8} (h:fnT f++123::u=fnT g++123::v):f=g∧u=v:=by
 have c1:f=0∨f=1∨f=2∨f=3:=by omega
 have c2:g=0∨g=1∨g=2∨g=3:=by omega
 rcases c1 with rfl | rfl | rfl | rfl <;>rcases c2 with rfl | rfl | rfl | rfl <;>simp [fnT] at h <;>exact ⟨rfl,h⟩
theorem zSA {f g:Int} (hf:5≤f∧f≤10) (hg:5≤g∧g≤10) {u v:List UInt8} (h:opT f++32::u=opT g++32::v):f=g∧u=v:=by
 have c1:f=5∨f=6∨f=7∨f=8∨f=9∨f=10:=by omega
 have c2:g=5∨g=6∨g=7∨g=8∨g=9∨g=10:=by omega
 rcases c1 with rfl | rfl | rfl | rfl | rfl | rfl <;>rcases c2 with rfl | rfl | rfl | rfl | rfl | rfl <;>simp [opT] at h <;>exact ⟨rfl,h⟩
def SN:List UInt8:=[93,44,59,125]
def ST:List UInt8:=32::SN
def SF:List UInt8:=42::ST
def SA:List UInt8:=94::SF
theorem zKY:∀ c∈SA,isDg c=false:=by decide
theorem zV9:∀ c∈ST,c∈SA:=by decide
theorem zK0:∀ c∈SF,c∈SA:=by decide
def RdN (V:List Term→Bool):Prop:=∀ a b,V a=true→V b=true→zfz a→zfz b→∀ u v,hd SN u→hd SN v→txN a++u=txN b++v→a=b∧u=v
def RdA (V:List Term→Bool):Prop:=∀ x y,zcO V x=true→zcO V y=true→zfm x→zfm y→∀ u v,hd SA u→hd SA v→txA x++u=txA y++v→x=y∧u=v
theorem zSY {V:List Term→Bool} {x:Atom} (h:zcO V x=true):∃ c r,txA x=c::r∧isDg c=false:=by
 cases zcq.1 h with
 | var r h=>rw [txA]; exact ⟨116,_,rfl,rfl⟩
 | mon a b _ _ _ _ _=>rw [txA]; exact ⟨109,_,rfl,rfl⟩
 | del a _ _ _ _=>rw [txA]; exact ⟨100,_,rfl,rfl⟩
 | abs a _ _ _=>rw [txA]; exact ⟨97,_,rfl,rfl⟩
 | tst f l o b _ _ _ _=>rw [txA]; exact ⟨116,_,rfl,rfl⟩
theorem zRT {V:List Term→Bool} (hV:RdN V):RdA V:=by
 intro x y hx hy wx wy u v hu hv h
 have Wx:=zmk wx
 have Wy:=zmk wy
 have k0:¬ (1:Int)=0:=by decide
 have c44:∀ z,hd SN (44::z):=fun z=>zmE (by decide)
 have c93:∀ z,hd SN (93::z):=fun z=>zmE (by decide)
 have tE:∀ (r:RowID),zrn r=true→rng r.Table→∀ w z,zhC r.Table++w≠101::z:=fun r hr hg w z e=>by
  simp only [zrn,Bool.and_eq_true,decide_eq_true_eq] at hr
  obtain ⟨d1,d2⟩:=zR9 (show 0≤r.Table by omega) hg.2
  cases hl:zhC r.Table with
  | nil=>exact d2 hl
  | cons c s=>
   rw [hl] at e d1
   simp only [List.cons_append,List.cons.injEq] at e
   rw [List.all_cons,e.1] at d1
   revert d1; simp [isDg]
 cases zcq.1 hx with
 | var r hr=>
  have rr:=Wx.2.2.2.2.1
  simp only at rr
  cases zcq.1 hy with
  | var r' hr'=>
   have rr':=Wy.2.2.2.2.1
   simp only at rr'
   rw [txA,txA] at h
   simp only [zcT,if_true,txR,List.cons_append,List.cons.injEq,true_and,List.append_assoc] at h
   obtain ⟨h1,h2⟩:=zpT (zkw rr.1) (zkw rr'.1) (fun c hc=>by simp only [List.head?_cons,Option.some.injEq] at hc; subst hc; rfl) (fun c hc=>by simp only [List.head?_cons,Option.some.injEq] at hc; subst hc; rfl) h
   simp only [List.cons.injEq,true_and] at h2
   obtain ⟨h3,h4⟩:=zpT (zkw rr.2) (zkw rr'.2) (hu.noDig zKY) (hv.noDig zKY) h2
   obtain ⟨t,s⟩:=r; obtain ⟨t',s'⟩:=r'
   simp only at h1 h3
   exact ⟨by rw [h1,h3],h4⟩
  | tst f l o b _ _ _ _=>
   rw [txA,txA] at h
   simp only [zcT,if_true,txR,show ¬ (4:Int)=0 by decide,show ¬ (4:Int)=1 by decide,show ¬ (4:Int)=2 by decide,show ¬ (4:Int)=3 by decide,if_false,List.cons_append,List.cons.injEq,true_and,List.append_assoc] at h
   exact absurd h (tE r hr (zkw rr.1) _ _)
  | mon a b _ _ _ _ _=>rw [txA,txA] at h; simp [zcT,txR] at h
  | del a _ _ _ _=>rw [txA,txA] at h; simp [zcT,txR] at h
  | abs a _ _ _=>rw [txA,txA] at h; simp [zcT,txR] at h
 | mon a b ha hb _ _ _=>
  cases zcq.1 hy with
  | mon a' b' ha' hb' _ _ _=>
   rw [txA,txA,zkt,zkt] at h
   simp only [zcT,if_true,k0,if_false,List.map,List.getD_cons_zero,List.getD_cons_succ,List.cons_append,List.cons.injEq,true_and,List.append_assoc,List.nil_append] at h
   have wa:=fun z hz=>(ziy Wx.1.1 z hz).1
   have wb:=fun z hz=>(ziy Wy.1.1 z hz).1
   obtain ⟨h1,h2⟩:=hV a a' ha ha' (wa a (by simp)) (wb a' (by simp)) _ _ (c44 _) (c44 _) h
   simp only [List.cons.injEq,true_and] at h2
   obtain ⟨h3,h4⟩:=hV b b' hb hb' (wa b (by simp)) (wb b' (by simp)) _ _ (c93 _) (c93 _) h2
   simp only [List.cons.injEq,true_and] at h4
   exact ⟨by rw [h1,h3],h4⟩
  | var r h=>rw [txA,txA] at h; simp [zcT,txR] at h
  | del a _ _ _ _=>rw [txA,txA] at h; simp [zcT,txR] at h
  | abs a _ _ _=>rw [txA,txA] at h; simp [zcT,txR] at h
  | tst f l o b _ _ _ _=>rw [txA,txA] at h; simp [zcT,txR] at h
 | del a ha _ _ _=>
  cases zcq.1 hy with
  | del a' ha' _ _ _=>
   rw [txA,txA,zkt,zkt] at h
   simp only [zcT,if_true,show ¬ (2:Int)=0 by decide,show ¬ (2:Int)=1 by decide,if_false,List.map,List.getD_cons_zero,List.cons_append,List.cons.injEq,true_and,List.append_assoc,List.nil_append] at h
   have wa:=fun z hz=>(ziy Wx.1.1 z hz).1
   have wb:=fun z hz=>(ziy Wy.1.1 z hz).1
   obtain ⟨h1,h2⟩:=hV a a' ha ha' (wa a (by simp)) (wb a' (by simp)) _ _ (c93 _) (c93 _) h
   simp only [List.cons.injEq,true_and] at h2
   exact ⟨by rw [h1],h2⟩
  | var r h=>rw [txA,txA] at h; simp [zcT,txR] at h
  | mon a b _ _ _ _ _=>rw [txA,txA] at h; simp [zcT,txR] at h
  | abs a _ _ _=>rw [txA,txA] at h; simp [zcT,txR] at h
  | tst f l o b _ _ _ _=>rw [txA,txA] at h; simp [zcT,txR] at h
 | abs a ha _ _=>
  cases zcq.1 hy with
  | abs a' ha' _ _=>
   rw [txA,txA,zkt,zkt] at h
   simp only [zcT,if_true,show ¬ (3:Int)=0 by decide,show ¬ (3:Int)=1 by decide,show ¬ (3:Int)=2 by decide,if_false,List.map,List.getD_cons_zero,List.cons_append,List.cons.injEq,true_and,List.append_assoc,List.nil_append] at h
   have wa:=fun z hz=>(ziy Wx.1.1 z hz).1
   have wb:=fun z hz=>(ziy Wy.1.1 z hz).1
   obtain ⟨h1,h2⟩:=hV a a' ha ha' (wa a (by simp)) (wb a' (by simp)) _ _ (c93 _) (c93 _) h
   simp only [List.cons.injEq,true_and] at h2
   exact ⟨by rw [h1],h2⟩
  | var r h=>rw [txA,txA] at h; simp [zcT,txR] at h
  | mon a b _ _ _ _ _=>rw [txA,txA] at h; simp [zcT,txR] at h
  | del a _ _ _ _=>rw [txA,txA] at h; simp [zcT,txR] at h
  | tst f l o b _ _ _ _=>rw [txA,txA] at h; simp [zcT,txR] at h
 | tst f l o b hl hi hs hf=>
  cases zcq.1 hy with
  | tst f' l' o' b' hl' hi' hs' hf'=>
   obtain ⟨⟨f0,f3,o5,o10⟩,hb,hit⟩:=zoj hf
   obtain ⟨⟨f0',f3',o5',o10'⟩,hb',hit'⟩:=zoj hf'
   have wl:=zhd Wx.2.1.1
   have wl':=zhd Wy.2.1.1
   rw [txA,txA,zCu,zCu] at h
   simp only [zcT,show ¬ (4:Int)=0 by decide,show ¬ (4:Int)=1 by decide,show ¬ (4:Int)=2 by decide,show ¬ (4:Int)=3 by decide,if_false,List.cons_append,List.cons.injEq,true_and,List.append_assoc,List.nil_append] at h
   obtain ⟨h1,h2⟩:=zTj ⟨f0,f3⟩ ⟨f0',f3'⟩ h
   obtain ⟨h3,h4⟩:=zC2 txI [125] 59 [32] (fun w=>(V w.Ann=true∧zfz w.Ann)∧valV w.Value=true∧rng w.Value.Int) (by decide) (fun x y px py u v hu hv e=>by
    simp only [txI,List.append_assoc,List.cons_append,List.nil_append] at e
    obtain ⟨e1,e2⟩:=zOq px.2.1 py.2.1 px.2.2 py.2.2 (zmE (by decide)) (zmE (by decide)) e
    simp only [List.cons.injEq,true_and] at e2
    obtain ⟨e3,e4⟩:=hV _ _ px.1.1 py.1.1 px.1.2 py.1.2 u v (hu.mono (by decide)) (hv.mono (by decide)) e2
    obtain ⟨vx,ax⟩:=x; obtain ⟨vy,ay⟩:=y
    simp only at e1 e3
    exact ⟨by rw [e1,e3],e4⟩) l l' hl hl' (fun w hw=>⟨⟨(hi w hw).1,(wl w hw).2.1⟩,(hit w hw).1,zkw (wl w hw).1.2.1⟩) (fun w hw=>⟨⟨(hi' w hw).1,(wl' w hw).2.1⟩,(hit' w hw).1,zkw (wl' w hw).1.2.1⟩) _ _ (zmE (by decide)) (zmE (by decide)) h2
   simp only [List.cons.injEq,true_and] at h4
   obtain ⟨h5,h6⟩:=zSA ⟨o5,o10⟩ ⟨o5',o10'⟩ h4
   obtain ⟨h7,h8⟩:=zOq hb hb' (zkw Wx.2.2.1.2.1) (zkw Wy.2.2.1.2.1) (zmE (by decide)) (zmE (by decide)) h6
   simp only [List.cons.injEq,true_and] at h8
   exact ⟨by rw [h1,h3,h5,h7],h8⟩
  | var r hr=>
   have rr:=Wy.2.2.2.2.1
   simp only at rr
   rw [txA,txA] at h
   simp only [zcT,if_true,txR,show ¬ (4:Int)=0 by decide,show ¬ (4:Int)=1 by decide,show ¬ (4:Int)=2 by decide,show ¬ (4:Int)=3 by decide,if_false,List.cons_append,List.cons.injEq,true_and,List.append_assoc] at h
   exact absurd h.symm (tE r hr (zkw rr.1) _ _)
  | mon a b _ _ _ _ _=>rw [txA,txA] at h; simp [zcT,txR] at h
  | del a _ _ _ _=>rw [txA,txA] at h; simp [zcT,txR] at h
  | abs a _ _ _=>rw [txA,txA] at h; simp [zcT,txR] at h
def gF (V:List Term→Bool) (f:Factor):Prop:=zcO V f.Atom=true∧zfm f.Atom∧rng f.Exp
theorem zVJ {V:List Term→Bool} (hA:RdA V) {f g:Factor} (hf:gF V f) (hg:gF V g) {u v:List UInt8} (hu:hd SF u) (hv:hd SF v) (h:txF f++u=txF g++v):f=g∧u=v:=by
 obtain ⟨x,e⟩:=f; obtain ⟨y,e'⟩:=g
 obtain ⟨a1,a2,a3⟩:=hf; obtain ⟨b1,b2,b3⟩:=hg
 simp only at a1 a2 a3 b1 b2 b3
 have c94:∀ z,hd SA (94::z):=fun z=>zmE (by decide)
 have n94:(94:UInt8)∉SF:=by decide
 have dg:∀ c∈SF,isDg c=false:=fun c hc=>zKY c (zK0 c hc)
 unfold txF zCW at h
 simp only at h
 by_cases h1:e=1
 ·by_cases h2:e'=1
  ·rw [if_pos h1,if_pos h2] at h
   obtain ⟨q1,q2⟩:=hA x y a1 b1 a2 b2 u v (hu.mono zK0) (hv.mono zK0) h
   exact ⟨by rw [q1,h1,h2],q2⟩
  ·rw [if_pos h1,if_neg h2,List.append_assoc] at h
   obtain ⟨q1,q2⟩:=hA x y a1 b1 a2 b2 u _ (hu.mono zK0) (c94 _) h
   rw [q2] at hu
   exact (hu.cons_ne n94).elim
 ·by_cases h2:e'=1
  ·rw [if_neg h1,if_pos h2,List.append_assoc] at h
   obtain ⟨q1,q2⟩:=hA x y a1 b1 a2 b2 _ v (c94 _) (hv.mono zK0) h
   rw [← q2] at hv
   exact (hv.cons_ne n94).elim
  ·rw [if_neg h1,if_neg h2,List.append_assoc,List.append_assoc] at h
   obtain ⟨q1,q2⟩:=hA x y a1 b1 a2 b2 _ _ (c94 _) (c94 _) h
   simp only [List.cons_append,List.cons.injEq,true_and] at q2
   obtain ⟨q3,q4⟩:=zpT a3 b3 (hu.noDig dg) (hv.noDig dg) q2
   exact ⟨by rw [q1,q3],q4⟩
theorem zL4 {V:List Term→Bool} (hA:RdA V) {l l':List Factor} (hl:l≠[]) (hl':l'≠[]) (h1:∀ f∈l,gF V f) (h2:∀ f∈l',gF V f) {u v:List UInt8} (hu:hd ST u) (hv:hd ST v) (h:txL l++u=txL l'++v):l=l'∧u=v:=by
 unfold txL at h
 rw [zsX,zsX] at h
 exact zC2 txF ST 42 [] (gF V) (by decide) (fun x y px py u v hu hv e=>zVJ hA px py hu hv e) l l' hl hl' h1 h2 u v hu hv h
theorem zxZ {V:List Term→Bool} {l:List Factor} (hl:l≠[]) (h:∀ f∈l,gF V f):∃ c r,txL l=c::r∧isDg c=false:=by
 cases l with
 | nil=>exact absurd rfl hl
 | cons f r=>
  obtain ⟨c,s,e,hc⟩:=zSY (h f (by simp)).1
  have:∃ s',txF f=c::s':=by
   unfold txF zCW
   split
   ·exact ⟨s,e⟩
   ·exact ⟨_,by rw [e]; rfl⟩
  obtain ⟨s',e'⟩:=this
  unfold txL
  rw [zsX]
  cases r with
  | nil=>exact ⟨c,s',by simp only [List.map,zej]; exact e',hc⟩
  | cons g r=>exact ⟨c,_,by simp only [List.map,zej]; rw [e']; rfl,hc⟩
def gT (V:List Term→Bool) (t:Term):Prop:=(1≤t.Coeff∧t.Coeff≤9223372036854775807)∧∀ f∈t.Factors,gF V f
theorem zMr {n:Int} (h:1≤n) (h2:n≤9223372036854775807):∃ c r,zhC n=c::r∧isDg c=true∧c≠48:=by
 have e:zhC n=Lib.decDigits n.toNat:=by rw [zKg (by omega) h2,Lib.itoa,if_neg (by omega)]
 obtain ⟨a1,a2,a3,a4⟩:=zIh n.toNat n.toNat (Nat.le_refl _)
 rw [e]
 cases hl:Lib.decDigits n.toNat with
 | nil=>exact absurd hl a3
 | cons c r=>
  rw [hl] at a1 a4
  rw [List.all_cons,Bool.and_eq_true] at a1
  exact ⟨c,r,rfl,a1.1,fun e=>a4 (by omega) (by rw [e]; rfl)⟩
theorem zOK {l:List Factor}:txFs l=[]↔l=[]:=by rw [zsX,List.map_eq_nil_iff]
theorem zN3 (t:Term):txT t=if t.Factors=[] then zhC t.Coeff else if t.Coeff=1 then txL t.Factors else zhC t.Coeff++42::txL t.Factors:=by
 unfold txT zIy
 by_cases h:t.Factors=[]
 ·rw [if_pos (zOK.2 h),if_pos h]
 ·rw [if_neg (fun e=>h (zOK.1 e)),if_neg h]; rfl
theorem zVw {V:List Term→Bool} (hA:RdA V) {s t:Term} (hs:gT V s) (ht:gT V t) {u v:List UInt8} (hu:hd ST u) (hv:hd ST v) (h:txT s++u=txT t++v):s=t∧u=v:=by
 obtain ⟨c,l⟩:=s; obtain ⟨c',l'⟩:=t
 obtain ⟨⟨c1,c2⟩,h1⟩:=hs; obtain ⟨⟨c1',c2'⟩,h2⟩:=ht
 simp only at c1 c2 h1 c1' c2' h2
 have dg:∀ c∈ST,isDg c=false:=fun c hc=>zKY c (zV9 c hc)
 have n42:(42:UInt8)∉ST:=by decide
 have d42:∀ z,noDig (42::z):=fun z c hc=>by simp only [List.head?_cons,Option.some.injEq] at hc; subst hc; rfl
 have rc:rng c:=⟨by omega,c2⟩
 have rc':rng c':=⟨by omega,c2'⟩
 obtain ⟨d,r,e,hd,_⟩:=zMr c1 c2
 obtain ⟨d',r',e',hd',_⟩:=zMr c1' c2'
 rw [zN3,zN3] at h
 simp only at h
 by_cases l0:l=[]
 ·rw [if_pos l0] at h
  by_cases l0':l'=[]
  ·rw [if_pos l0'] at h
   obtain ⟨q1,q2⟩:=zpT rc rc' (hu.noDig dg) (hv.noDig dg) h
   exact ⟨by rw [q1,l0,l0'],q2⟩
  ·rw [if_neg l0'] at h
   by_cases k':c'=1
   ·rw [if_pos k'] at h
    obtain ⟨d2,r2,e2,hd2⟩:=zxZ l0' h2
    rw [e,e2] at h
    simp only [List.cons_append,List.cons.injEq] at h
    rw [h.1,hd2] at hd; cases hd
   ·rw [if_neg k',List.append_assoc] at h
    obtain ⟨q1,q2⟩:=zpT rc rc' (hu.noDig dg) (d42 _) h
    rw [q2] at hu
    exact (hu.cons_ne n42).elim
 ·rw [if_neg l0] at h
  by_cases k:c=1
  ·rw [if_pos k] at h
   obtain ⟨d2,r2,e2,hd2⟩:=zxZ l0 h1
   by_cases l0':l'=[]
   ·rw [if_pos l0',e2,e'] at h
    simp only [List.cons_append,List.cons.injEq] at h
    rw [← h.1,hd2] at hd'; cases hd'
   ·rw [if_neg l0'] at h
    by_cases k':c'=1
    ·rw [if_pos k'] at h
     obtain ⟨q1,q2⟩:=zL4 hA l0 l0' h1 h2 hu hv h
     exact ⟨by rw [q1,k,k'],q2⟩
    ·rw [if_neg k',e2,e'] at h
     simp only [List.cons_append,List.cons.injEq] at h
     rw [← h.1,hd2] at hd'; cases hd'
  ·rw [if_neg k,List.append_assoc] at h
   by_cases l0':l'=[]
   ·rw [if_pos l0'] at h
    obtain ⟨q1,q2⟩:=zpT rc rc' (d42 _) (hv.noDig dg) h
    rw [← q2] at hv
    exact (hv.cons_ne n42).elim
   ·rw [if_neg l0'] at h
    by_cases k':c'=1
    ·rw [if_pos k'] at h
     obtain ⟨d2,r2,e2,hd2⟩:=zxZ l0' h2
     rw [e,e2] at h
     simp only [List.cons_append,List.cons.injEq] at h
     rw [h.1,hd2] at hd; cases hd
    ·rw [if_neg k',List.append_assoc] at h
     obtain ⟨q1,q2⟩:=zpT rc rc' (d42 _) (d42 _) h
     simp only [List.cons_append,List.cons.injEq,true_and] at q2
     obtain ⟨q3,q4⟩:=zL4 hA l0 l0' h1 h2 hu hv q2
     exact ⟨by rw [q1,q3],q4⟩
theorem zSB {V:List Term→Bool} {t:Term} (ht:gT V t):∃ c r,txT t=c::r∧c≠48:=by
 obtain ⟨⟨c1,c2⟩,h1⟩:=ht
 obtain ⟨d,r,e,hd,h48⟩:=zMr c1 c2
 rw [zN3]
 by_cases l0:t.Factors=[]
 ·rw [if_pos l0]; exact ⟨d,r,e,h48⟩
 ·rw [if_neg l0]
  split
  ·obtain ⟨d2,r2,e2,hd2⟩:=zxZ l0 h1
   exact ⟨d2,r2,e2,fun e=>by rw [e] at hd2; revert hd2; decide⟩
  ·exact ⟨d,_,by rw [e]; rfl,h48⟩
theorem zVr {V:List Term→Bool} (hA:RdA V) {a b:List Term} (ha:∀ t∈a,gT V t) (hb:∀ t∈b,gT V t) {u v:List UInt8} (hu:hd SN u) (hv:hd SN v) (h:txN a++u=txN b++v):a=b∧u=v:=by
 have en:∀ z:List Term,z≠[]→txN z=zej (z.map txT) [32,43,32]:=fun z hz=>by
  unfold txN zFD; rw [zFx,if_neg (by simpa using hz)]
 have e0:txN []=[48]:=by unfold txN zFD; rw [txTs,if_pos rfl]
 have h48:∀ z:List Term,z≠[]→(∀ t∈z,gT V t)→∃ c r,txN z=c::r∧c≠48:=fun z hz hg=>by
  rw [en z hz]
  cases z with
  | nil=>exact absurd rfl hz
  | cons t r=>
   obtain ⟨c,s,e,hc⟩:=zSB (hg t (by simp))
   cases r with
   | nil=>exact ⟨c,s,by simp only [List.map,zej]; exact e,hc⟩
   | cons t' r=>exact ⟨c,_,by simp only [List.map,zej]; rw [e]; rfl,hc⟩
 by_cases a0:a=[]
 ·by_cases b0:b=[]
  ·rw [a0,b0] at h
   exact ⟨by rw [a0,b0],List.append_cancel_left h⟩
  ·obtain ⟨c,r,e,hc⟩:=h48 b b0 hb
   rw [a0,e0,e] at h
   simp only [List.cons_append,List.cons.injEq] at h
   exact absurd h.1.symm hc
 ·by_cases b0:b=[]
  ·obtain ⟨c,r,e,hc⟩:=h48 a a0 ha
   rw [b0,e0,e] at h
   simp only [List.cons_append,List.cons.injEq] at h
   exact absurd h.1 hc
  ·rw [en a a0,en b b0] at h
   exact zC2 txT SN 32 [43,32] (gT V) (by decide) (fun x y px py u v hu hv e=>zVw hA px py hu hv e) a b a0 b0 ha hb u v hu hv h
theorem zTs:∀ m,RdN (z7 m)∧RdA (z7 m):=by
 intro m
 induction m with
 | zero=>
  have:RdN (z7 0):=fun a b ha=>by cases ha
  exact ⟨this,zRT this⟩
 | succ m ih=>
  have:RdN (z7 (m+1)):=fun a b ha hb wa wb u v hu hv h=>by
   have key:∀ z,z7 (m+1) z=true→zfz z→∀ t∈z,gT (z7 m) t:=fun z hz wz t ht=>by
    obtain ⟨⟨c1,c2⟩,hok⟩:=zpM hz ht
    have hwt:=zlA (zqw (zoh wz t ht)).2.1
    exact ⟨⟨c1,by omega⟩,fun f hf=>⟨(zmf hok hf).2,(zmZ (hwt f hf)).1,zkw (zmZ (hwt f hf)).2⟩⟩
   exact zVr ih.2 (key a ha wa) (key b hb wb) hu hv h
  exact ⟨this,zRT this⟩
theorem zUA {m:Nat} {l l':List Factor} (h1:∀ f∈l,gF (z7 m) f) (h2:∀ f∈l',gF (z7 m) f) (h:txL l=txL l'):l=l':=by
 have e0:txL []=[]:=by unfold txL; rw [txFs]; rfl
 by_cases l0:l=[]
 ·by_cases l0':l'=[]
  ·rw [l0,l0']
  ·obtain ⟨c,r,e,_⟩:=zxZ l0' h2
   rw [l0,e0,e] at h; cases h
 ·by_cases l0':l'=[]
  ·obtain ⟨c,r,e,_⟩:=zxZ l0 h1
   rw [l0',e0,e] at h; cases h
  ·exact (zL4 (zTs m).2 l0 l0' h1 h2 (u:=[]) (v:=[]) (fun c hc=>by cases hc) (fun c hc=>by cases hc) (by rw [h])).1
def zoV (a b:Int):Int:=if 1152921504606846976<a+b then 1152921504606846976 else a+b
def cT (x y:Term):Int:=cmpL (zbw x.Factors) (zbw y.Factors)
theorem zEQ {x y:Term} (h:cT x y=0):x.Factors=y.Factors:=zz5 _ _ (zA9 _ _ h)
theorem ztd {x y:Term} (h:x.Factors=y.Factors):cT x y=0:=by unfold cT; rw [h]; exact zHz _
def putA (t:Term):List Term→List Term
 | []=>[t]
 | x::r=>if cT x t<0 then x::putA t r else if cT x t=0 then ⟨zoV x.Coeff t.Coeff,t.Factors⟩::r else t::x::r
def updA (t:Term):List Term→List Term
 | []=>[t]
 | x::r=>if x.Factors=t.Factors then ⟨zoV x.Coeff t.Coeff,x.Factors⟩::r else x::updA t r
abbrev Srs (l:List Term):Prop:=l.Pairwise fun x y=>cT x y<0
abbrev Dst (l:List Term):Prop:=l.Pairwise fun x y=>x.Factors≠y.Factors
theorem Srs.dst {l:List Term} (h:Srs l):Dst l:=h.imp fun {x y} hxy e=>by rw [ztd e] at hxy; omega
def SM (l:List Term) (t y:Term):Prop:=(y∈l∧y.Factors≠t.Factors)∨(y.Factors=t.Factors∧((∃ x∈l,x.Factors=t.Factors∧y.Coeff=zoV x.Coeff t.Coeff)∨((∀ x∈l,x.Factors≠t.Factors)∧y.Coeff=t.Coeff)))
theorem zLQ {x y:Term} (h1:x.Coeff=y.Coeff) (h2:x.Factors=y.Factors):x=y:=by cases x; cases y; simp_all
theorem zBj {x y z:Term} (h1:cT x y<0) (h2:cT y z<0):cT x z<0:=zNq h1 h2
theorem zvq (x y:Term):cT y x= - cT x y:=zzu _ _
theorem zKW {x t y:Term} {r:List Term} (hx:x.Factors≠t.Factors) (hr:∀ z∈r,x.Factors≠z.Factors):SM (x::r) t y↔y=x∨SM r t y:=by
 unfold SM
 constructor
 ·rintro (⟨h1,h2⟩ | ⟨h1,⟨z,hz,h2,h3⟩ | ⟨h2,h3⟩⟩)
  ·rcases List.mem_cons.1 h1 with rfl | h1
   ·exact .inl rfl
   ·exact .inr (.inl ⟨h1,h2⟩)
  ·rcases List.mem_cons.1 hz with rfl | hz
   ·exact absurd h2 hx
   ·exact .inr (.inr ⟨h1,.inl ⟨z,hz,h2,h3⟩⟩)
  ·exact .inr (.inr ⟨h1,.inr ⟨fun z hz=>h2 z (by simp [hz]),h3⟩⟩)
 ·rintro (rfl | ⟨h1,h2⟩ | ⟨h1,⟨z,hz,h2,h3⟩ | ⟨h2,h3⟩⟩)
  ·exact .inl ⟨by simp,hx⟩
  ·exact .inl ⟨by simp [h1],h2⟩
  ·exact .inr ⟨h1,.inl ⟨z,by simp [hz],h2,h3⟩⟩
  ·exact .inr ⟨h1,.inr ⟨fun z hz=>by
    rcases List.mem_cons.1 hz with rfl | hz
    ·exact hx
    ·exact h2 z hz,h3⟩⟩
theorem zLY {t y:Term} {l:List Term} (h:∀ z∈l,z.Factors≠t.Factors):SM l t y↔y=t∨y∈l:=by
 unfold SM
 constructor
 ·rintro (⟨h1,h2⟩ | ⟨h1,⟨z,hz,h2,h3⟩ | ⟨h2,h3⟩⟩)
  ·exact .inr h1
  ·exact absurd h2 (h z hz)
  ·exact .inl (zLQ h3 h1)
 ·rintro (rfl | h1)
  ·exact .inr ⟨rfl,.inr ⟨h,rfl⟩⟩
  ·exact .inl ⟨h1,h y h1⟩
theorem zRx {x t y:Term} {r:List Term} (hx:x.Factors=t.Factors) (hr:∀ z∈r,z.Factors≠t.Factors):SM (x::r) t y↔y=⟨zoV x.Coeff t.Coeff,t.Factors⟩∨y∈r:=by
 unfold SM
 constructor
 ·rintro (⟨h1,h2⟩ | ⟨h1,⟨z,hz,h2,h3⟩ | ⟨h2,h3⟩⟩)
  ·rcases List.mem_cons.1 h1 with rfl | h1
   ·exact absurd hx h2
   ·exact .inr h1
  ·rcases List.mem_cons.1 hz with rfl | hz
   ·exact .inl (zLQ h3 h1)
   ·exact absurd h2 (hr z hz)
  ·exact absurd hx (h2 x (by simp))
 ·rintro (rfl | h1)
  ·exact .inr ⟨rfl,.inl ⟨x,by simp,hx,rfl⟩⟩
  ·exact .inl ⟨by simp [h1],hr y h1⟩
theorem zEb {t y:Term}:∀ {l:List Term},Srs l→(y∈putA t l↔SM l t y)
 | [],_=>by rw [zLY (by simp)]; simp [putA]
 | x::r,h=>by
  have hc:=List.pairwise_cons.1 h
  have hd:=List.pairwise_cons.1 h.dst
  unfold putA
  by_cases h1:cT x t<0
  ·rw [if_pos h1,List.mem_cons,zKW (fun e=>by rw [ztd e] at h1; omega) hd.1,zEb hc.2]
  ·rw [if_neg h1]
   by_cases h2:cT x t=0
   ·rw [if_pos h2,List.mem_cons,zRx (zEQ h2) fun z hz e=>by
     have:=hc.1 z hz; rw [ztd ((zEQ h2).trans e.symm)] at this; omega]
   ·rw [if_neg h2,zLY fun z hz e=>by
     have a:=zvq x t
     rcases List.mem_cons.1 hz with rfl | hz
     ·exact h2 (ztd e)
     ·have b:=zBj (show cT t x<0 by omega) (hc.1 z hz)
      rw [ztd e.symm] at b; omega]
    rw [List.mem_cons]
theorem zL9 {t y:Term}:∀ {l:List Term},Dst l→(y∈updA t l↔SM l t y)
 | [],_=>by rw [zLY (by simp)]; simp [updA]
 | x::r,h=>by
  have hd:=List.pairwise_cons.1 h
  unfold updA
  by_cases h2:x.Factors=t.Factors
  ·rw [if_pos h2,List.mem_cons,zRx h2 fun z hz e=>hd.1 z hz (h2.trans e.symm),h2]
  ·rw [if_neg h2,List.mem_cons,zKW h2 hd.1,zL9 hd.2]
theorem zu6 {t:Term}:∀ {l:List Term},Srs l→Srs (putA t l)
 | [],_=>by simp [putA]
 | x::r,h=>by
  have hc:=List.pairwise_cons.1 h
  unfold putA
  by_cases h1:cT x t<0
  ·rw [if_pos h1]
   refine List.pairwise_cons.2 ⟨fun z hz=> ?_,zu6 hc.2⟩
   rcases (zEb hc.2).1 hz with ⟨h2,_⟩ | ⟨h2,_⟩
   ·exact hc.1 z h2
   ·have:cT x z=cT x t:=by unfold cT; rw [h2]
    rw [this]; exact h1
  ·rw [if_neg h1]
   by_cases h2:cT x t=0
   ·rw [if_pos h2]
    refine List.pairwise_cons.2 ⟨fun z hz=> ?_,hc.2⟩
    have:=hc.1 z hz
    unfold cT at this ⊢
    rw [← zEQ h2]; exact this
   ·rw [if_neg h2]
    have a:=zvq x t
    refine List.pairwise_cons.2 ⟨fun z hz=> ?_,h⟩
    rcases List.mem_cons.1 hz with rfl | hz
    ·omega
    ·exact zBj (show cT t x<0 by omega) (hc.1 z hz)
theorem zL1 {t:Term}:∀ {l:List Term},Dst l→Dst (updA t l)
 | [],_=>by simp [updA]
 | x::r,h=>by
  have hc:=List.pairwise_cons.1 h
  unfold updA
  by_cases h2:x.Factors=t.Factors
  ·rw [if_pos h2]
   exact List.pairwise_cons.2 ⟨fun z hz=>hc.1 z hz,hc.2⟩
  ·rw [if_neg h2]
   refine List.pairwise_cons.2 ⟨fun z hz=> ?_,zL1 hc.2⟩
   rcases (zL9 hc.2).1 hz with ⟨h3,_⟩ | ⟨h3,_⟩
   ·exact hc.1 z h3
   ·rw [h3]; exact h2
theorem Dst.nodup {l:List Term} (h:Dst l):l.Nodup:=h.imp fun {x y} hxy e=>hxy (by rw [e])
theorem zUu {l l':List Term} (h:l.Perm l') (t y:Term):SM l t y↔SM l' t y:=by
 unfold SM
 simp only [h.mem_iff]
theorem zR1 {l l':List Term} (t:Term) (h:l.Perm l') (hs:Srs l) (hd:Dst l'):(putA t l).Perm (updA t l'):=
 (List.perm_ext_iff_of_nodup (zu6 hs).dst.nodup (zL1 hd).nodup).2 fun y=>by rw [zEb hs,zL9 hd,zUu h]
def sumA (a b:List Term):List Term:=b.foldl (fun a t=>putA t a) a
def zCY (ts:List Term):List Term:=ts.foldl (fun a t=>updA t a) []
theorem zBa:∀ (b a:List Term),Srs a→Srs (sumA a b)
 | [],_,h=>h
 | t::r,a,h=>zBa r (putA t a) (zu6 h)
theorem zNa:∀ (ts l l':List Term),l.Perm l'→Srs l→Dst l'→(sumA l ts).Perm (ts.foldl (fun a t=>updA t a) l')∧Dst (ts.foldl (fun a t=>updA t a) l')
 | [],l,l',h,_,hd=>⟨h,hd⟩
 | t::r,l,l',h,hs,hd=>zNa r (putA t l) (updA t l') (zR1 t h hs hd) (zu6 hs) (zL1 hd)
theorem zOF {t:Term}:∀ {l:List Term},(∀ x∈l,cT x t<0)→putA t l=l++[t]
 | [],_=>rfl
 | x::r,h=>by
  unfold putA
  rw [if_pos (h x (by simp)),zOF fun y hy=>h y (by simp [hy])]; rfl
theorem zLK:∀ (r l:List Term),Srs (l++r)→sumA l r=l++r
 | [],l,_=>by simp [sumA]
 | t::r,l,h=>by
  have e:sumA l (t::r)=sumA (putA t l) r:=rfl
  have hp:=List.pairwise_append.1 h
  rw [e,zOF fun x hx=>hp.2.2 x hx t (by simp),zLK r (l++[t]) (by simpa using h)]
  simp
theorem sum_nil {a:List Term} (h:Srs a):sumA [] a=a:=zLK a [] h
theorem zUK (a b:List Term) (h:Srs a):sumA [] (a++b)=sumA a b:=by
 show (a++b).foldl (fun a t=>putA t a) []=_
 rw [List.foldl_append]
 show sumA (sumA [] a) b=_
 rw [sum_nil h]
theorem zte {y:Term}:∀ (b a:List Term),Srs a→y∈sumA a b→∃ x,(x∈a∨x∈b)∧y.Factors=x.Factors
 | [],a,_,h=>⟨y,.inl h,rfl⟩
 | t::r,a,hs,h=>by
  obtain ⟨x,hx,e⟩:=zte r (putA t a) (zu6 hs) h
  rcases hx with hx | hx
  ·rcases (zEb hs).1 hx with ⟨h1,_⟩ | ⟨h1,_⟩
   ·exact ⟨x,.inl h1,e⟩
   ·exact ⟨t,.inr (by simp),e.trans h1⟩
  ·exact ⟨x,.inr (by simp [hx]),e⟩
theorem zMF {a b:Int} (ha:1≤a) (hb:1≤b):1≤zoV a b∧zoV a b≤1152921504606846976:=by
 unfold zoV
 split
 ·omega
 ·omega
def cOK (t:Term):Prop:=1≤t.Coeff∧t.Coeff≤1152921504606846976
theorem zNw {t:Term} (ht:cOK t):∀ {l:List Term},(∀ x∈l,cOK x)→∀ x∈putA t l,cOK x
 | [],_,x,hx=>by simp only [putA,List.mem_singleton] at hx; subst hx; exact ht
 | y::r,h,x,hx=>by
  unfold putA at hx
  split at hx
  ·rcases List.mem_cons.1 hx with rfl | hx
   ·exact h _ (by simp)
   ·exact zNw ht (fun z hz=>h z (by simp [hz])) x hx
  ·split at hx
   ·rcases List.mem_cons.1 hx with rfl | hx
    ·exact zMF (h y (by simp)).1 ht.1
    ·exact h x (by simp [hx])
   ·rcases List.mem_cons.1 hx with rfl | hx
    ·exact ht
    ·exact h x hx
theorem zNG:∀ (b:List Term) {a:List Term},(∀ x∈a,cOK x)→(∀ x∈b,cOK x)→∀ x∈sumA a b,cOK x
 | [],a,ha,_=>ha
 | t::r,a,ha,hb=>zNG r (zNw (hb t (by simp)) ha) fun x hx=>hb x (by simp [hx])
theorem zIN {t:Term}:∀ (l:List Term),(putA t l).length≤l.length+1
 | []=>by simp [putA]
 | x::r=>by
  have:=zIN (t:=t) r
  unfold putA
  split
  ·simp only [List.length_cons]; omega
  ·split <;>simp
theorem zBe:∀ (b a:List Term),(sumA a b).length≤a.length+b.length
 | [],a=>by simp [sumA]
 | t::r,a=>by
  have h1:=zBe r (putA t a)
  have h2:=zIN (t:=t) a
  show (sumA (putA t a) r).length≤_
  simp only [List.length_cons]; omega
def cF (x y:Factor):Int:=cmpT (zdP x.Atom) (zdP y.Atom)
theorem zIF {x y:Factor} (h:cF x y=0):x.Atom=y.Atom:=zK9 _ _ (zs7 _ _ h)
theorem zLM (x y:Factor):cF y x= - cF x y:=zih _ _
theorem zNn {a b c:TT} (h1:cmpT a b<0) (h2:cmpT b c<0):cmpT a c<0:=by
 have h:=zs4 a b c (by omega) (by omega)
 by_cases e:cmpT a c=0
 ·have e':=zs7 a c e
  subst e'
  have:=zih a b
  omega
 ·omega
theorem zsx {x y z:Factor} (h1:cF x y<0) (h2:cF y z<0):cF x z<0:=zNn h1 h2
abbrev Srf (l:List Factor):Prop:=l.Pairwise fun x y=>cF x y<0
def facA (f:Factor):List Factor→List Factor
 | []=>[f]
 | x::r=>if cF x f<0 then x::facA f r else if cF x f=0 then (if f.Atom.Kind<3 then ⟨f.Atom,x.Exp+f.Exp⟩ else f)::r else f::x::r
def zS:List Factor→List Factor→List Factor
 | [],b=>b
 | x::a,[]=>x::a
 | x::a,y::b=>if cF x y<0 then x::zS a (y::b) else if 0<cF x y then y::zS (x::a) b else (if x.Atom.Kind=3∨x.Atom.Kind=4 then x else ⟨x.Atom,x.Exp+y.Exp⟩)::zS a b
termination_by a b=>a.length+b.length
theorem zy9 (a:List Factor):zS a []=a:=by cases a <;>rw [zS]
theorem zB9 {m:Factor} {L b:List Factor} (h:∀ z∈b,cF m z<0):zS (m::L) b=m::zS L b:=by
 cases b with
 | nil=>rw [zy9,zy9]
 | cons z b=>rw [zS,if_pos (h z (by simp))]
def eOK (f:Factor):Prop:=(0≤f.Atom.Kind∧f.Atom.Kind≤4)∧(f.Atom.Kind=3∨f.Atom.Kind=4→f.Exp=1)
theorem zOC {y:Factor} {b:List Factor} (hb:∀ z∈b,cF y z<0) (hy:eOK y):∀ {a:List Factor},(∀ x∈a,eOK x)→zS (facA y a) b=zS a (y::b)
 | [],_=>by
  rw [facA,zB9 hb,zS,zS]
 | x::a,ha=>by
  unfold facA
  by_cases h1:cF x y<0
  ·rw [if_pos h1,zB9 fun z hz=>zsx h1 (hb z hz),zOC hb hy fun z hz=>ha z (by simp [hz]),zB9 (m:=x) (b:=y::b) fun z hz=>by
    rcases List.mem_cons.1 hz with rfl | hz
    ·exact h1
    ·exact zsx h1 (hb z hz)]
  ·rw [if_neg h1]
   by_cases h2:cF x y=0
   ·have ea:=zIF h2
    rw [if_pos h2,zB9 fun z hz=>by
     have e:(if y.Atom.Kind<3 then (⟨y.Atom,x.Exp+y.Exp⟩:Factor) else y).Atom=y.Atom:=by split <;>rfl
     have:=hb z hz
     unfold cF at this ⊢; rw [e]; exact this]
    rw [zS,if_neg h1,if_neg (show ¬ 0<cF x y by omega)]
    congr 1
    have hx:=ha x (by simp)
    obtain ⟨xa,xe⟩:=x
    obtain ⟨ya,ye⟩:=y
    simp only at ea
    subst ea
    obtain ⟨⟨k0,k4⟩,h3⟩:=hx
    obtain ⟨_,h3'⟩:=hy
    simp only at k0 k4 h3 h3' ⊢
    by_cases hk:xa.Kind<3
    ·rw [if_pos hk,if_neg (by omega)]
    ·have hk':xa.Kind=3∨xa.Kind=4:=by omega
     rw [if_neg hk,if_pos hk',h3 hk',h3' hk']
   ·rw [if_neg h2,zB9 hb]
    rw [zS,if_neg h1,if_pos (by omega)]
theorem zE8:∀ (b a:List Factor),Srf b→(∀ x∈a,eOK x)→(∀ x∈b,eOK x)→b.foldl (fun l f=>facA f l) a=zS a b
 | [],a,_,_,_=>by rw [zy9]; rfl
 | y::b,a,hs,ha,hb=>by
  have hc:=List.pairwise_cons.1 hs
  have hy:=hb y (by simp)
  rw [List.foldl_cons,zE8 b (facA y a) hc.2 (fun x hx=> ?_) fun x hx=>hb x (by simp [hx]),zOC hc.1 hy ha]
  -- kinds and exponents are kept
  clear hs hc hb
  induction a with
  | nil=>simp only [facA,List.mem_singleton] at hx; subst hx; exact hy
  | cons z r ih=>
   unfold facA at hx
   split at hx
   ·rcases List.mem_cons.1 hx with rfl | hx
    ·exact ha _ (by simp)
    ·exact ih (fun w hw=>ha w (by simp [hw])) hx
   ·split at hx
    ·rcases List.mem_cons.1 hx with rfl | hx
     ·split
      ·rename_i hk; exact ⟨hy.1,fun h=>by simp only at h; omega⟩
      ·exact hy
     ·exact ha x (by simp [hx])
    ·rcases List.mem_cons.1 hx with rfl | hx
     ·exact hy
     ·exact ha x hx
theorem znf {x:Factor}:∀ {a b:List Factor},x∈zS a b→∃ y,(y∈a∨y∈b)∧x.Atom=y.Atom
 | [],b,h=>⟨x,.inr (by rwa [zS] at h),rfl⟩
 | y::a,[],h=>⟨x,.inl (by rwa [zS] at h),rfl⟩
 | y::a,z::b,h=>by
  rw [zS] at h
  split at h
  ·rcases List.mem_cons.1 h with rfl | h
   ·exact ⟨x,.inl (by simp),rfl⟩
   ·obtain ⟨w,hw,e⟩:=znf h
    rcases hw with hw | hw
    ·exact ⟨w,.inl (by simp [hw]),e⟩
    ·exact ⟨w,.inr hw,e⟩
  ·split at h
   ·rcases List.mem_cons.1 h with rfl | h
    ·exact ⟨x,.inr (by simp),rfl⟩
    ·obtain ⟨w,hw,e⟩:=znf h
     rcases hw with hw | hw
     ·exact ⟨w,.inl hw,e⟩
     ·exact ⟨w,.inr (by simp [hw]),e⟩
   ·rcases List.mem_cons.1 h with rfl | h
    ·exact ⟨y,.inl (by simp),by split <;>rfl⟩
    ·obtain ⟨w,hw,e⟩:=znf h
     rcases hw with hw | hw
     ·exact ⟨w,.inl (by simp [hw]),e⟩
     ·exact ⟨w,.inr (by simp [hw]),e⟩
termination_by a b=>a.length+b.length
theorem zBI:∀ (a b:List Factor),(zS a b).length≤a.length+b.length
 | [],b=>by rw [zS]; simp
 | y::a,[]=>by rw [zS]; simp
 | y::a,z::b=>by
  rw [zS]
  split
  ·have:=zBI a (z::b); simp only [List.length_cons] at this ⊢; omega
  ·split
   ·have:=zBI (y::a) b; simp only [List.length_cons] at this ⊢; omega
   ·have:=zBI a b; simp only [List.length_cons] at this ⊢; omega
termination_by a b=>a.length+b.length
theorem zCi {x:Factor} {B:Int}:∀ {a b:List Factor},(∀ y∈a,1≤y.Exp∧y.Exp≤B)→(∀ y∈b,1≤y.Exp∧y.Exp≤B)→x∈zS a b→1≤x.Exp∧x.Exp≤2*B
 | [],b,ha,hb,h=>by rw [zS] at h; have:=hb x h; omega
 | y::a,[],ha,hb,h=>by rw [zS] at h; have:=ha x h; omega
 | y::a,z::b,ha,hb,h=>by
  have hy:=ha y (by simp)
  have hz:=hb z (by simp)
  rw [zS] at h
  split at h
  ·rcases List.mem_cons.1 h with rfl | h
   ·omega
   ·exact zCi (fun w hw=>ha w (by simp [hw])) hb h
  ·split at h
   ·rcases List.mem_cons.1 h with rfl | h
    ·omega
    ·exact zCi ha (fun w hw=>hb w (by simp [hw])) h
   ·rcases List.mem_cons.1 h with rfl | h
    ·split
     ·omega
     ·simp only; omega
    ·exact zCi (fun w hw=>ha w (by simp [hw])) (fun w hw=>hb w (by simp [hw])) h
termination_by a b=>a.length+b.length
def zo9 (a b:Int):Int:=if Int.tdiv 1152921504606846976 b<a then 1152921504606846976 else a*b
def zhx (x y:Term):Term:=⟨zo9 x.Coeff y.Coeff,zS x.Factors y.Factors⟩
def zdb (a b:List Term):List Term:=a.flatMap fun x=>b.map (zhx x)
def zbn (a b:List Term):List Term:=sumA [] (zdb a b)
theorem zAU {a b:Int} (ha:1≤a∧a≤1152921504606846976) (hb:1≤b∧b≤1152921504606846976):(1≤zo9 a b∧zo9 a b≤1152921504606846976)∧(¬ Int.tdiv 1152921504606846976 b<a→a*b≤1152921504606846976):=by
 have h1:¬ Int.tdiv 1152921504606846976 b<a→a*b≤1152921504606846976:=fun h=>by
  rw [Int.tdiv_eq_ediv_of_nonneg (by omega)] at h
  have h2:a≤1152921504606846976 / b:=by omega
  exact (Int.le_ediv_iff_mul_le (by omega)).1 h2
 refine ⟨?_,h1⟩
 unfold zo9
 split
 ·omega
 ·rename_i h
  refine ⟨?_,h1 h⟩
  have:=Int.mul_le_mul ha.1 hb.1 (by omega) (by omega)
  omega
theorem zvF {t:Term} {a b:List Term} (h:t∈zdb a b):∃ x∈a,∃ y∈b,t=zhx x y:=by
 obtain ⟨x,hx,ht⟩:=List.mem_flatMap.1 h
 obtain ⟨y,hy,rfl⟩:=List.mem_map.1 ht
 exact ⟨x,hx,y,hy,rfl⟩
theorem zIx (a b:List Term):(zdb a b).length=a.length*b.length:=by
 unfold zdb
 induction a with
 | nil=>simp
 | cons x r ih=>rw [List.flatMap_cons,List.length_append,ih,List.length_map,List.length_cons,Nat.add_mul]; omega
section
variable (g:List Term→Bool×List Term)
theorem zWo (l:List (List Term)) (hl:l.length≤1000000) (hg:∀ a∈l,g a=(true,a)) (n:Nat) (hn:l.length<n) (x0 x1 x2 x3:Int) (x4:List Weighted) (x5 x6 x7:Int) (x8:ByteArray) (t0 t1 t2 t3 t4 t5 t6:Int) (t7:ByteArray):
  zqC g n l.length 0 x0 x1 x2 x3 x4 x5 x6 x7 x8 t0 t1 t2 t3 t4 t5 t6 t7 l=(true,(x0,x1,x2,x3,x4,x5,x6,x7,x8,t0,t1,t2,t3,t4,t5,t6,t7,l)):=by
 have:=zdB (W:=ziA g) (z:=default) l.length (fun i=>((),(),(l.length:Int),(i:Int),())) (fun _=>((x0,x1,x2,(),x3,x4,x5,x6,x7,x8,()),(t0,t1,t2,(),t3,(),t4,t5,t6,t7,()),l,())) (fun _=>true) default (x0,x1,x2,x3,x4,x5,x6,x7,x8,t0,t1,t2,t3,t4,t5,t6,t7,l)
  (fun i hi H K D=>by
   show (zfq g l.length i x0 x1 x2 x3 x4 x5 x6 x7 x8 t0 t1 t2 t3 t4 t5 t6 t7 l).ev H K D=_
   unfold zfq
   simp only [Wy.ev_i,Wy.ev_k,Wy.ev_h,Wy.ev_bn,Wy.ev_d,tT,hi,hg _ (zp hi)]
   rw [zM (by omega),zKm hi])
  (fun H K D=>by
   show (zfq g l.length l.length x0 x1 x2 x3 x4 x5 x6 x7 x8 t0 t1 t2 t3 t4 t5 t6 t7 l).ev H K D=_
   unfold zfq
   simp only [Wy.ev_i,Wy.ev_k,tT,Nat.lt_irrefl]) n hn
 rw [show allN (fun _=>true) l.length 0=true from zd8.2 fun _ _ _=>rfl] at this
 exact this
theorem zWf (l:List Weighted) (hl:l.length≤1000000) (hg:∀ a∈l,g a.Ann=(true,a.Ann)) (n:Nat) (hn:l.length<n) (x0 x1 x2 x3 x4 x5 x6:Int) (x7:ByteArray) (t0 t1 t2 t3 t4 t5 t6:Int) (t7:ByteArray) (b2:List (List Term)):
  zqE g n l.length 0 x0 x1 x2 x3 x4 x5 x6 x7 t0 t1 t2 t3 t4 t5 t6 t7 b2 l=(true,(x0,x1,x2,x3,x4,x5,x6,x7,t0,t1,t2,t3,t4,t5,t6,t7,b2,l)):=by
 have:=zdB (W:=ziv g) (z:=default) l.length (fun i=>((),(),(l.length:Int),(i:Int),())) (fun _=>((x0,x1,x2,(),x3,(),x4,x5,x6,x7,()),(t0,t1,t2,(),t3,(),t4,t5,t6,t7,()),b2,l,())) (fun _=>true) default (x0,x1,x2,x3,x4,x5,x6,x7,t0,t1,t2,t3,t4,t5,t6,t7,b2,l)
  (fun i hi H K D=>by
   show (zfo g l.length i x0 x1 x2 x3 x4 x5 x6 x7 t0 t1 t2 t3 t4 t5 t6 t7 b2 l).ev H K D=_
   unfold zfo
   simp only [Wy.ev_i,Wy.ev_k,Wy.ev_h,Wy.ev_bn,Wy.ev_d,tT,hi,hg _ (zp hi)]
   have:l.set i (⟨(l.getD i default).Value,(l.getD i default).Ann⟩:Weighted)=l:=zKm hi
   rw [zM (by omega),this])
  (fun H K D=>by
   show (zfo g l.length l.length x0 x1 x2 x3 x4 x5 x6 x7 t0 t1 t2 t3 t4 t5 t6 t7 b2 l).ev H K D=_
   unfold zfo
   simp only [Wy.ev_i,Wy.ev_k,tT,Nat.lt_irrefl]) n hn
 rw [show allN (fun _=>true) l.length 0=true from zd8.2 fun _ _ _=>rfl] at this
 exact this
theorem zKv (x:Atom) (h1:x.Args.length≤1000000) (h2:x.Items.length≤1000000) (hg:∀ a∈x.Args,g a=(true,a)) (hgi:∀ w∈x.Items,g w.Ann=(true,w.Ann)):zhE g x=(true,x):=by
 have hreach:zK=70368744177664:=rfl
 unfold zhE zml zdh zd1
 have e1:∀ k:Nat,k≤1000→decide (x.Args.length*k≤zK)=true:=fun k hk=>by
  have:=Nat.mul_le_mul h1 hk
  simp only [decide_eq_true_eq]; omega
 have e2:∀ k:Nat,k≤1000→decide (x.Items.length*k≤zK)=true:=fun k hk=>by
  have:=Nat.mul_le_mul h2 hk
  simp only [decide_eq_true_eq]; omega
 simp only [Wy.fin_bn,Wy.fin_k,e1 _ (by omega:24≤1000),e2 _ (by omega:56≤1000),Int.ofNat_eq_natCast,cond_true]
 rw [zWo g _ h1 hg _ (by omega)]
 simp only [cond_true,e2 _ (by omega:56≤1000)]
 rw [zWf g _ h2 hgi _ (by omega)]
 simp only [cond_true]
 cases x; rfl
theorem zPr (gx:Atom→Bool×Atom) (a:List Term) (hl:a.length≤1000000) (hg:∀ t∈a,t.Factors.length≤1000000∧∀ f∈t.Factors,gx f.Atom=(true,f.Atom)):zki gx a=(true,a):=by
 unfold zki zo1
 have:=cp_3 gx a hl hg (a.length+(Int.ofNat a.length).toNat +Int.toNat (0:Int)+(0:Nat)+(1:Nat)) (by omega)
 rw [show Int.ofNat a.length=(a.length:Int) from rfl] at *
 rw [Wy.fin_bn,this]; rfl
end
theorem zLH:∀ n,
  (∀ d a,zm d a→2*d≤n→zkh n a=(true,a))∧
  (∀ d x,zcI (zm d) x→2*d+1≤n→zj5 n x=(true,x))
 | 0=>by
  refine ⟨fun d a h hd=> ?_,fun d x h hd=>by omega⟩
  have:d=0:=by omega
  subst this; exact h.elim
 | n+1=>by
  obtain ⟨h1,h2⟩:=zLH n
  refine ⟨fun d a h hd=> ?_,fun d x h hd=> ?_⟩
  ·cases d with
   | zero=>exact h.elim
   | succ d=>
    rw [zDR]
    exact zPr _ a h.1 fun t ht=>⟨(h.2 t ht).1,fun f hf=>h2 d _ ((h.2 t ht).2 f hf) (by omega)⟩
  ·rw [zzX]
   exact zKv _ x h.1.1 h.1.2.1 (fun a ha=>h1 d a (h.2.1 a ha) (by omega)) fun w hw=>h1 d _ (h.2.2 w hw).2 (by omega)
theorem zzg {d:Nat} {a:List Term} (h:zm d a) (hd:d≤100):zfR a=(true,a):=(zLH 1000).1 d a h (by omega)
def fitR (a:List Term):List Term×Int:=bif zfi a then (a,0) else ([],6)
theorem zs3 {d:Nat} {a:List Term} (h:zm d a) (hd:d≤100) (hs:zI a≤4611686018427387904):zdQ a=(true,fitR a):=by
 unfold zdQ zqm fitR
 simp only [Wy.fin_bn,Wy.fin_i,Wy.fin_k,zMA h hd hs,zzg h hd,cond_true]
 cases zfi a <;>rfl
theorem zEw {d:Nat} {a:List Term} (h:zm d a) (hd:d≤100) (hs:zI a≤4611686018427387904):zn3 a=(true,fitR a):=by
 unfold zn3 zJw fitR
 simp only [Wy.fin_bn,Wy.fin_i,Wy.fin_k,zPS h hd hs,cond_true]
 cases zfi a <;>rfl
def oneA (x:Atom):List Term:=[⟨1,[⟨x,1⟩]⟩]
theorem zyM (x:Atom):(zeK x).2=oneA x:=by
 unfold zeK zre
 rw [Atom.eta]; rfl
theorem zEA (x:Atom):(zol x).2=oneA x:=by
 unfold zol zHq
 rw [Atom.eta]; rfl
theorem zG6 {d:Nat} {x:Atom} (h:zcI (zm d) x):zm (d+1) (oneA x):=by
 refine ⟨by simp [oneA],fun t ht=> ?_⟩
 simp only [oneA,List.mem_singleton] at ht
 subst ht
 refine ⟨by simp,fun f hf=> ?_⟩
 simp only [List.mem_singleton] at hf
 subst hf; exact h
theorem zKe (x:Atom):zI (oneA x)=2+zeC x:=by
 rw [oneA,zeV,zqb,zcB,zhw]
 simp only [List.length_singleton]; omega
abbrev zyc:=List Weighted×Unit×Int×Int×Unit
abbrev zmU:=List Weighted×Unit
abbrev ttTref05Items2:=List Weighted×Int×Int×List Weighted
abbrev zxU:=List Weighted×Unit×Int×Unit
def zpd (l:List Weighted) (i:Int) (k:Int) (out_:List Weighted):Wy zyc zmU ttTref05Items2:=.i (decide (k<Int.ofNat out_.length)) (.i (decide (0≤k)&&decide (k≤IntKind.i64.wrap (k+1))&&decide (IntKind.i64.wrap (k+1)≤Int.ofNat out_.length)) (.i (decide (0≤i)&&decide (i≤IntKind.i64.wrap (i+1))&&decide (IntKind.i64.wrap (i+1)≤Int.ofNat l.length)) (.bn (zsO (List.take ((IntKind.i64.wrap (k+1)).toNat - k.toNat) (List.drop k.toNat out_)) (List.take ((IntKind.i64.wrap (i+1)).toNat - i.toNat) (List.drop i.toNat l))) fun r0=>.i (decide (r0≤0)) (.h (l,(),i,(IntKind.i64.wrap (k+1)),()) (out_,())) (.k (l,i,k,out_))) .d) .d) (.k (l,i,k,out_))
def zEv (x:zyc) (y:zmU):Wy zyc zmU ttTref05Items2:=zpd x.1 x.2.2.1 x.2.2.2.1 y.1
def zEl (n:Nat) (l:List Weighted) (i:Int) (k:Int) (out_:List Weighted):Bool×ttTref05Items2:=zQ (zEv) default n (l,(),i,k,()) (out_,())
def zo8 (l:List Weighted) (i:Int) (out_:List Weighted):Wy zxU zmU (List Weighted):=.i (decide (i<Int.ofNat l.length)) (.i (decide (0≤i)&&decide (i<Int.ofNat l.length)) (.i (Int.ofNat (l.getD i.toNat default).Ann.length==0) (.h (l,(),(IntKind.i64.wrap (i+1)),()) (out_,())) (.bn (zEl (l.length+i.toNat +Int.toNat 0+out_.length+1) l i 0 out_) fun r2=>.i (decide ((0:Int)≤(0:Int))&&decide (0≤r2.2.2.1)&&decide (r2.2.2.1≤Int.ofNat r2.2.2.2.length)) (.i (decide ((0+(List.take (r2.2.2.1.toNat - Int.toNat 0) (List.drop (Int.toNat 0) r2.2.2.2)).length)*56≤zK)) (.i (decide (0≤r2.2.1)&&decide (r2.2.1<Int.ofNat r2.1.length)) (.i (decide ((([]++List.take (r2.2.2.1.toNat - Int.toNat 0) (List.drop (Int.toNat 0) r2.2.2.2)).length+[r2.1.getD r2.2.1.toNat default].length)*56≤zK)) (.i (decide (0≤r2.2.2.1)&&decide (r2.2.2.1≤Int.ofNat r2.2.2.2.length)&&decide (Int.ofNat r2.2.2.2.length≤Int.ofNat r2.2.2.2.length)) (.i (decide ((([]++List.take (r2.2.2.1.toNat - Int.toNat 0) (List.drop (Int.toNat 0) r2.2.2.2)++[r2.1.getD r2.2.1.toNat default]).length+(List.take ((Int.ofNat r2.2.2.2.length).toNat - r2.2.2.1.toNat) (List.drop r2.2.2.1.toNat r2.2.2.2)).length)*56≤zK)) (.h ((r2.1),(),(IntKind.i64.wrap (r2.2.1+1)),()) (([]++List.take (r2.2.2.1.toNat - Int.toNat 0) (List.drop (Int.toNat 0) r2.2.2.2)++[r2.1.getD r2.2.1.toNat default]++List.take ((Int.ofNat r2.2.2.2.length).toNat - r2.2.2.1.toNat) (List.drop r2.2.2.1.toNat r2.2.2.2)),())) .d) .d) .d) .d) .d) .d)) .d) (.k out_)
def zEV (x:zxU) (y:zmU):Wy zxU zmU (List Weighted):=zo8 x.1 x.2.2.1 y.1
def zEn (n:Nat) (l:List Weighted) (i:Int) (out_:List Weighted):Bool×List Weighted:=zQ (zEV) default n (l,(),i,()) (out_,())
def zGz (l:List Weighted):Wy0 (List Weighted):=.bn (zEn (l.length+Int.toNat 0+0+1) l 0 []) fun r4=>.k r4
def zDz (l:List Weighted):Bool×List Weighted:=(zGz l).fin default
def zDa (op:Int) (sign:Int):Wy0 (Bool):=.i (op==5) (.k (sign==0)) (.i (op==6) (.k (sign != 0)) (.i (op==7) (.k (decide (sign<0))) (.i (op==8) (.k (decide (sign≤0))) (.i (op==9) (.k (decide (sign>0))) (.i (op==10) (.k (decide (sign≥0))) (.k false))))))
def zAb (op:Int) (sign:Int):Bool×Bool:=(zDa op sign).fin default
abbrev zzW:=Int×List Weighted×Int×Unit×Int×Unit
abbrev ttTref05Test1:=Int⊕(Int×List Weighted×Int×Value)
def zqU (fn:Int) (items:List Weighted) (op:Int) (i:Int) (bound:Value):Wy zzW (Value×Unit) ttTref05Test1:=.i (decide (i<Int.ofNat items.length)) (.i (decide (0≤i)&&decide (i<Int.ofNat items.length)) (.bn (zfD (items.getD i.toNat default).Ann) fun r0=>.i (!r0) (.k (.inl 1)) (.h (fn,items,op,(),(IntKind.i64.wrap (i+1)),()) (bound,()))) .d) (.k (.inr (fn,items,op,bound)))
def zGl (x:zzW) (y:Value×Unit):Wy zzW (Value×Unit) ttTref05Test1:=zqU x.1 x.2.1 x.2.2.1 x.2.2.2.2.1 y.1
def zGG (n:Nat) (fn:Int) (items:List Weighted) (op:Int) (i:Int) (bound:Value):Bool×ttTref05Test1:=zQ (zGl) (.inl default) n (fn,items,op,(),i,()) (bound,())
def zHg (fn:Int) (items:List Weighted) (op:Int) (bound:Value):Wy0 (List Term×Int):=.bn (zyf fn items op bound) fun r7=>.i (!r7) (.k ([],1)) (.bn (zGG (fn.toNat +items.length+op.toNat +Int.toNat 0+1) fn items op 0 bound) fun r6=>.i (isL r6) (.k ([],getL r6)) (.bn (zDz (getR r6).2.1) fun r5=>.i (Int.ofNat r5.length==0) (.i ((getR r6).1==0) (.bn (zcW 0 (getR r6).2.2.2.Int) fun r3=>.bn (zAb (getR r6).2.2.1 r3) fun r2=>.i (r2) (.k (zHe.2,0)) (.k ([],0))) (.k ([],0))) (.bn (zn3 (zol (Atom.mk 4 (RowID.mk 0 0) [] (getR r6).1 r5 (getR r6).2.2.1 (getR r6).2.2.2)).2) fun r4=>.k (r4.1,r4.2))))
def zA2 (fn:Int) (items:List Weighted) (op:Int) (bound:Value):Bool×(List Term×Int):=(zHg fn items op bound).fin default
section
variable {α β ρ τ:Type} [Inhabited τ]
theorem zIO (p:τ→Bool):∀ l:List τ,l.take (l.takeWhile p).length=l.takeWhile p
 | []=>rfl
 | x::r=>by
  rw [List.takeWhile_cons]
  cases p x with
  | true=>simp [zIO p r]
  | false=>simp
theorem zIH (p:τ→Bool):∀ l:List τ,l.drop (l.takeWhile p).length=l.dropWhile p
 | []=>rfl
 | x::r=>by
  rw [List.takeWhile_cons,List.dropWhile_cons]
  cases p x with
  | true=>simp [zIH p r]
  | false=>simp
theorem zWr (p:τ→Bool) (l:List τ):(l.takeWhile p).length≤l.length:=(List.takeWhile_prefix p).length_le
theorem zNg {W:α→β→Wy α β ρ} {z:ρ} (l:List τ) (p:τ→Bool) (ex:Nat→α) (ey:Nat→β) (res:Nat→ρ)
  (h:∀ i,i<l.length→∀ (H:α→β→Bool×ρ) K D,(W (ex i) (ey i)).ev H K D=bif p (l.getD i default) then H (ex (i+1)) (ey (i+1)) else K (res i))
  (he:∀ (H:α→β→Bool×ρ) K D,(W (ex l.length) (ey l.length)).ev H K D=K (res l.length)):
  ∀ n i,l.length<i+n→i≤l.length→zQ W z n (ex i) (ey i)=(true,res (i+((l.drop i).takeWhile p).length))
 | 0,i,h1,h2=>by omega
 | n+1,i,h1,h2=>by
  show (W (ex i) (ey i)).ev (zQ W z n) (fun r=>(true,r)) (false,z)=_
  by_cases hi:i<l.length
  ·rw [h i hi,zbm hi,List.takeWhile_cons]
   cases hp:p (l.getD i default) with
   | false=>simp
   | true=>
    rw [cond_true,zNg l p ex ey res h he n (i+1) (by omega) (by omega)]
    simp only [if_true,List.length_cons]
    congr 2; omega
  ·have:i=l.length:=by omega
   subst this
   rw [he,zcE hi]; rfl
theorem zFn {W:α→β→Wy α β ρ} {z:ρ} (l:List τ) (p:τ→Bool) (ex:Nat→α) (ey:Nat→β) (res:Nat→ρ)
  (h:∀ i,i<l.length→∀ (H:α→β→Bool×ρ) K D,(W (ex i) (ey i)).ev H K D=bif p (l.getD i default) then H (ex (i+1)) (ey (i+1)) else K (res i))
  (he:∀ (H:α→β→Bool×ρ) K D,(W (ex l.length) (ey l.length)).ev H K D=K (res l.length)) (n:Nat) (hn:l.length<n):
  zQ W z n (ex 0) (ey 0)=(true,res (l.takeWhile p).length):=by
 have:=zNg (z:=z) l p ex ey res h he n 0 (by omega) (by omega)
 simpa using this
def rins (p:τ→Bool) (x:τ) (l:List τ):List τ:=l.takeWhile p++x::l.dropWhile p
theorem zMY (p:τ→Bool) (x y:τ) (r:List τ):rins p x (y::r)=bif p y then y::rins p x r else x::y::r:=by
 unfold rins
 rw [List.takeWhile_cons,List.dropWhile_cons]
 cases p y <;>simp
theorem zzv (p:τ→Bool) (x:τ):∀ l:List τ,(rins p x l).Perm (x::l)
 | []=>.refl _
 | y::r=>by
  rw [zMY]
  cases p y
  ·exact .refl _
  ·exact ((zzv p x r).cons y).trans (.swap x y r)
abbrev Srt (key:τ→TT) (l:List τ):Prop:=l.Pairwise fun x y=>cmpT (key x) (key y)≤0
theorem zOV (key:τ→TT) (x:τ):∀ l:List τ,Srt key l→Srt key (rins (fun y=>decide (cmpT (key y) (key x)≤0)) x l)
 | [],_=>by simp [rins]
 | y::r,h=>by
  have h:=List.pairwise_cons.1 h
  rw [zMY]
  by_cases hp:cmpT (key y) (key x)≤0
  ·rw [decide_eq_true hp]
   refine List.pairwise_cons.2 ⟨fun z hz=> ?_,zOV key x r h.2⟩
   rcases List.mem_cons.1 ((zzv _ x r).mem_iff.1 hz) with rfl | hz
   ·exact hp
   ·exact h.1 z hz
  ·rw [decide_eq_false hp]
   have hxy:cmpT (key x) (key y)≤0:=by have:=zih (key x) (key y); omega
   refine List.pairwise_cons.2 ⟨fun z hz=> ?_,List.pairwise_cons.2 h⟩
   rcases List.mem_cons.1 hz with rfl | hz
   ·exact hxy
   ·exact zs4 _ _ _ hxy (h.1 z hz)
end
theorem zMf {τ:Type} (l:List τ) (k:Nat):List.take (k - Int.toNat 0) (List.drop (Int.toNat 0) l)=l.take k:=by simp
theorem zvl {τ:Type} (l:List τ) (k:Nat):List.take ((Int.ofNat l.length).toNat - k) (List.drop k l)=l.drop k:=by
 simp only [Int.ofNat_eq_natCast,Int.toNat_natCast]
 rw [List.take_of_length_le (by simp)]
theorem zNI (n:Nat):(n==0)= !decide (0<n):=by cases n <;>simp
def hasA (w:Weighted):Bool:=decide (0<w.Ann.length)
def zdR (l:List Weighted):List Weighted:=zmg zZ (l.filter hasA)
theorem zBt {d:Nat} {l:List Weighted} (hl:l.length≤1000000) (h:∀ w∈l,zm d w.Ann) (hd:d≤99):SortOK zZ l:=by
 have e:∀ x∈l,∀ y,zZ x y=(true,cmpT (zY x) (zY y)):=fun x hx y=>ziC (h x hx) hd y
 refine ⟨by omega,fun x hx y _=>by rw [e x hx],fun x hx=> ?_,fun x hx y hy z hz h1 h2=> ?_,fun x hx y hy z hz h1 h2=> ?_,fun x hx y hy h1 h2=> ?_⟩
 ·rw [e x hx,zHh]; omega
 ·rw [e x hx] at h1 ⊢; rw [e y hy] at h2
  have h3:=zs4 _ _ _ (show cmpT (zY x) (zY y)≤0 by simp only at h1; omega) (show cmpT (zY y) (zY z)≤0 by simp only at h2; omega)
  simp only at h1 h2 ⊢
  by_cases e0:cmpT (zY x) (zY z)=0
  ·have:=zs7 _ _ e0
   rw [← this,zih (zY x) (zY y)] at h2
   omega
  ·omega
 ·rw [e x hx] at h1 ⊢; rw [e y hy] at h2
  simp only at h1 h2 ⊢
  have a1:=zih (zY x) (zY y)
  have a2:=zih (zY y) (zY z)
  have a3:=zih (zY x) (zY z)
  have:=zs4 (zY z) (zY y) (zY x) (by omega) (by omega)
  omega
 ·rw [e x hx] at h1; rw [e y hy] at h2
  simp only at h1 h2
  have a1:=zih (zY x) (zY y)
  exact zLe _ _ (zs7 _ _ (by omega))
theorem zUf {d:Nat} (l:List Weighted) (hl:l.length≤1000000) (h:∀ w∈l,zm d w.Ann) (hd:d≤99) (n:Nat) (hn:l.length<n):zxp n l l.length 0 []=(true,l.filter hasA):=by
 have hreach:zK=70368744177664:=rfl
 have hfl:∀ i,(List.filter hasA (l.take i)).length≤1000000:=fun i=>Nat.le_trans (List.length_filter_le _ _) (Nat.le_trans (by simp; omega) hl)
 have:=zdB (W:=zno) (z:=default) l.length (fun i=>((),l,(l.length:Int),(i:Int),())) (fun i=>((l.take i).filter hasA,())) (fun _=>true) default (l.filter hasA)
  (fun i hi H K D=>by
   show (zkj l l.length i ((l.take i).filter hasA)).ev H K D=_
   unfold zkj
   have hb2:decide (((List.filter hasA (l.take i)).length+1)*56≤zK)=true:=by have:=hfl i; simp only [decide_eq_true_eq]; omega
   have hgt:decide (((l.getD i default).Ann.length:Int)>0)=hasA (l.getD i default):=zmW _ 0
   simp only [Wy.ev_i,Wy.ev_k,Wy.ev_h,Wy.ev_bn,Wy.ev_d,tT,hi,zzg (h _ (zp hi)) (by omega:d≤100),hgt,List.length_singleton,hb2]
   rw [zM (by omega),ziJ hi,List.filter_append,List.filter_cons]
   cases hasA (l.getD i default) with
   | true=>simp
   | false=>simp)
  (fun H K D=>by
   show (zkj l l.length l.length ((l.take l.length).filter hasA)).ev H K D=_
   unfold zkj
   simp only [Wy.ev_i,Wy.ev_k,tT,Nat.lt_irrefl,List.take_length]) n hn
 rw [show allN (fun _=>true) l.length 0=true from zd8.2 fun _ _ _=>rfl] at this
 exact this
theorem zTB {d:Nat} (l:List Weighted) (hl:l.length≤1000000) (h:∀ w∈l,zm d w.Ann) (hd:d≤99) (h20:(l.filter hasA).length<20):zng l=(true,zdR l):=by
 unfold zng zsA zbb zdR
 have:=zUf l hl h hd (l.length+(Int.ofNat l.length).toNat +Int.toNat (0:Int)+(0:Nat)+(1:Nat)) (by omega)
 rw [show Int.ofNat l.length=(l.length:Int) from rfl] at *
 have ok:SortOK zZ (l.filter hasA):=zBt (d:=d) (by omega) (fun w hw=>h w (List.mem_filter.1 hw).1) hd
 rw [Wy.fin_bn,this]
 simp only [Wy.fin_bn,Wy.fin_k,cond_true,decide_eq_true ok,decide_eq_true h20,Bool.and_self]
def zrJ (w:Weighted) (out:List Weighted):List Weighted:=bif hasA w then rins (fun y=>decide (cmpT (zY y) (zY w)≤0)) w out else out
theorem zS8 {d:Nat} (l:List Weighted) (i:Nat) (hi:i<l.length) (hl:l.length≤1000000) (out:List Weighted) (ho:out.length≤1000000) (h:∀ w∈out,zm d w.Ann) (hd:d≤99) (n:Nat) (hn:out.length<n):
  zEl n l i 0 out=(true,(l,(i:Int),(((out.takeWhile fun y=>decide (cmpT (zY y) (zY (l.getD i default))≤0)).length:Nat):Int),out)):=by
 exact zFn (W:=zEv) (z:=default) out (fun y=>decide (cmpT (zY y) (zY (l.getD i default))≤0)) (fun k=>(l,(),(i:Int),(k:Int),())) (fun _=>(out,())) (fun k=>(l,(i:Int),(k:Int),out))
  (fun k hk H K D=>by
   show (zpd l i k out).ev H K D=_
   unfold zpd
   have e1:(decide ((k:Int)≤((k+1:Nat):Int))&&decide (((k+1:Nat):Int)≤Int.ofNat out.length))=true:=by simp; try omega
   have e2:(decide ((i:Int)≤((i+1:Nat):Int))&&decide (((i+1:Nat):Int)≤Int.ofNat l.length))=true:=by simp; try omega
   have e3:decide ((k:Int)<Int.ofNat out.length)=true:=by simp [hk]
   simp only [Wy.ev_i,Wy.ev_k,Wy.ev_h,Wy.ev_bn,Wy.ev_d,zM (show k<4611686018427387904 by omega),zM (show i<4611686018427387904 by omega),e1,e2,e3,zez,Bool.true_and,cond_true,Int.toNat_natCast,show k+1 - k=1 by omega,show i+1 - i=1 by omega,zNA _ _ hi,zNA _ _ hk]
   rw [zu5 (d:=d) (by simp) (fun w hw=>by
    rw [List.mem_singleton] at hw; subst hw; exact h _ (zp hk)) hd,zkI,zkI]
   simp only [List.map,zTR,cond_true])
  (fun H K D=>by
   show (zpd l i out.length out).ev H K D=_
   unfold zpd
   have e3:decide ((out.length:Int)<Int.ofNat out.length)=false:=by simp
   simp only [Wy.ev_i,Wy.ev_k,e3,cond_false]) n hn
theorem zSc (w:Weighted) (out:List Weighted):(zrJ w out).length≤out.length+1:=by
 unfold zrJ
 cases hasA w with
 | false=>simp
 | true=>simp only [cond_true]; rw [(zzv _ w out).length_eq]; simp
theorem zRN {w y:Weighted} {out:List Weighted} (h:y∈zrJ w out):y=w∨y∈out:=by
 unfold zrJ at h
 cases hb:hasA w with
 | false=>rw [hb] at h; exact .inr h
 | true=>rw [hb] at h; exact List.mem_cons.1 ((zzv _ w out).mem_iff.1 h)
theorem zSQ {d:Nat} (l:List Weighted) (hl:l.length≤1000000) (h:∀ w∈l,zm d w.Ann) (hd:d≤99) (n:Nat) (hn:l.length<n):zEn n l 0 []=(true,l.foldl (fun out w=>zrJ w out) []):=by
 have hreach:zK=70368744177664:=rfl
 have:=zcv (W:=zEV) (z:=default) (l:=l) (fun i (out:List Weighted)=>(l,(),(i:Int),())) (fun _ out=>(out,())) (fun w out=>.inl (zrJ w out)) (fun out=>out) (fun i out=>out.length≤i∧∀ w∈out,zm d w.Ann)
  (fun i out hi hI=>.inl ⟨_,rfl,⟨by have:=zSc (l.getD i default) out; omega,fun w hw=>by
    rcases zRN hw with rfl | hw
    ·exact h _ (zp hi)
    ·exact hI.2 w hw⟩,fun H K D=>by
   show (zo8 l i out).ev H K D=_
   unfold zo8
   have e0:((l.getD i default).Ann.length==0)= !hasA (l.getD i default):=zNI _
   have e3:decide ((i:Int)<Int.ofNat l.length)=true:=by simp [hi]
   simp only [Wy.ev_i,Wy.ev_k,Wy.ev_h,Wy.ev_bn,Wy.ev_d,e3,zez,Bool.and_self,cond_true,Int.toNat_natCast,show (Int.ofNat (l.getD i default).Ann.length==(0:Int))=((l.getD i default).Ann.length==0) from zp9 _ 0,e0]
   rw [zS8 l i hi hl out (by omega) hI.2 hd _ (by omega)]
   simp only [cond_true,zMf,zvl,List.nil_append,Int.toNat_natCast,e3,zez,Bool.and_self,Int.le_refl,decide_true,Bool.true_and,Bool.and_true]
   have q1:=zWr (fun y=>decide (cmpT (zY y) (zY (l.getD i default))≤0)) out
   have q2:decide (((out.takeWhile fun y=>decide (cmpT (zY y) (zY (l.getD i default))≤0)).length:Int)≤Int.ofNat out.length)=true:=by simp only [decide_eq_true_eq,Int.ofNat_eq_natCast]; omega
   have hb1:decide ((0+(out.take (out.takeWhile fun y=>decide (cmpT (zY y) (zY (l.getD i default))≤0)).length).length)*56≤zK)=true:=by simp only [decide_eq_true_eq,List.length_take]; omega
   have hb2:decide (((out.take (out.takeWhile fun y=>decide (cmpT (zY y) (zY (l.getD i default))≤0)).length).length+[l.getD i default].length)*56≤zK)=true:=by simp only [decide_eq_true_eq,List.length_take,List.length_singleton]; omega
   have hb3:decide (((out.take (out.takeWhile fun y=>decide (cmpT (zY y) (zY (l.getD i default))≤0)).length++[l.getD i default]).length+(out.drop (out.takeWhile fun y=>decide (cmpT (zY y) (zY (l.getD i default))≤0)).length).length)*56≤zK)=true:=by simp only [decide_eq_true_eq,List.length_append,List.length_take,List.length_singleton,List.length_drop]; omega
   simp only [q2,hb1,hb2,hb3,cond_true]
   rw [zM (by omega),zIO,zIH]
   unfold zrJ rins
   cases hasA (l.getD i default) <;>simp⟩)
  (fun out hI H K D=>by
   show (zo8 l l.length out).ev H K D=_
   unfold zo8
   have e3:decide ((l.length:Int)<Int.ofNat l.length)=false:=by simp
   simp only [Wy.ev_i,Wy.ev_k,e3,cond_false]) n 0 [] (by omega) (by omega) ⟨by simp,fun w hw=>by cases hw⟩
 rw [List.drop_zero,zcw] at this
 exact this
theorem zLu:∀ (l out:List Weighted),(l.foldl (fun out w=>zrJ w out) out).Perm (l.filter hasA++out)∧(Srt zY out→Srt zY (l.foldl (fun out w=>zrJ w out) out))
 | [],out=>⟨.refl _,fun h=>h⟩
 | w::r,out=>by
  obtain ⟨h1,h2⟩:=zLu r (zrJ w out)
  rw [List.foldl_cons,List.filter_cons]
  cases hb:hasA w with
  | false=>
   have e:zrJ w out=out:=by unfold zrJ; rw [hb]; rfl
   rw [e] at h1 h2 ⊢
   exact ⟨by simpa using h1,h2⟩
  | true=>
   have e:zrJ w out=rins (fun y=>decide (cmpT (zY y) (zY w)≤0)) w out:=by unfold zrJ; rw [hb]; rfl
   rw [e] at h1 h2 ⊢
   refine ⟨?_,fun h=>h2 (zOV zY w out h)⟩
   simp only [if_true,List.cons_append]
   exact h1.trans (((zzv _ w out).append_left _).trans List.perm_middle)
theorem zSn {d:Nat} (l:List Weighted) (hl:l.length≤1000000) (h:∀ w∈l,zm d w.Ann) (hd:d≤99):zDz l=(true,zdR l):=by
 unfold zDz zGz
 rw [Wy.fin_bn,zSQ l hl h hd _ (by omega)]
 simp only [cond_true,Wy.fin_k]
 congr 1
 obtain ⟨h1,h2⟩:=zLu l []
 rw [List.append_nil] at h1
 have hm:∀ w∈l.filter hasA,zm d w.Ann:=fun w hw=>h w (List.mem_filter.1 hw).1
 refine (zBt (d:=d) (Nat.le_trans (List.length_filter_le _ _) hl) hm hd).unique h1 ?_
 refine (h2 .nil).imp_of_mem fun {x y} hx hy hxy=> ?_
 rw [ziC (hm y (h1.mem_iff.1 hy)) hd,zih (zY x) (zY y)]
 simp only; omega
def mats (op sign:Int):Bool:=bif op==5 then sign==0 else bif op==6 then sign != 0 else bif op==7 then decide (sign<0) else bif op==8 then decide (sign≤0) else bif op==9 then decide (sign>0) else decide (sign≥0)
theorem zTd (op sign:Int):znj op sign=(true,mats op sign):=by
 unfold znj zsz mats
 simp only [Wy.fin_i,Wy.fin_k]
 cases op==5 <;>cases op==6 <;>cases op==7 <;>cases op==8 <;>cases op==9 <;>rfl
theorem zQL {op sign:Int} (h1:5≤op) (h2:op≤10):zAb op sign=(true,mats op sign):=by
 unfold zAb zDa mats
 simp only [Wy.fin_i,Wy.fin_k,beqd]
 by_cases a1:op=5
 ·simp [a1]
 by_cases a2:op=6
 ·simp [a2]
 by_cases a3:op=7
 ·simp [a3]
 by_cases a4:op=8
 ·simp [a4]
 by_cases a5:op=9
 ·simp [a5]
 have a6:op=10:=by omega
 simp [a6]
def tstA (fn:Int) (l:List Weighted) (op:Int) (b:Value):Atom:=⟨4,⟨0,0⟩,[],fn,l,op,b⟩
def zqr (fn:Int) (items:List Weighted) (op:Int) (b:Value):List Term×Int:=
 bif !(fitK fn items op b&&items.all fun w=>zC w.Ann) then ([],1) else
 bif decide (0<(zdR items).length) then fitR (oneA (tstA fn (zdR items) op b)) else
 bif fn==0&&mats op (cmpI 0 b.Int) then ([⟨1,[]⟩],0) else ([],0)
theorem zFK {l:List Weighted} {w:Weighted} (h:w∈zdR l):w∈l∧w.Ann≠[]:=by
 have:=(zoi _ _).mem_iff.1 h
 obtain ⟨h1,h2⟩:=List.mem_filter.1 this
 refine ⟨h1,fun e=> ?_⟩
 rw [hasA,e] at h2; simp at h2
theorem zKM (l:List Weighted):(zdR l).length=(l.filter hasA).length:=(zoi _ _).length_eq
theorem zIf {B:Nat}:∀ l:List Weighted,(∀ w∈l,zI w.Ann≤B)→zcJ l≤l.length*(B+1)
 | [],_=>by rw [zeR]; simp
 | w::r,h=>by
  rw [zhe,List.length_cons]
  have h1:=h w (by simp)
  have h2:=zIf r fun w hw=>h w (by simp [hw])
  rw [Nat.add_mul]; omega
theorem zBU {fn:Int} {l:List Weighted} {op:Int} {b:Value} (hl:l.length≤1000000) (hf:fitK fn l op b=true) (hv:(l.all fun w=>zC w.Ann)=true):zm 10 (oneA (tstA fn (zdR l) op b))∧zI (oneA (tstA fn (zdR l) op b))≤4611686018427387904:=by
 obtain ⟨_,hb,hit⟩:=zoj hf
 have hvv:∀ w∈l,zC w.Ann=true:=fun w hw=>List.all_eq_true.1 hv w hw
 have hlen:(zdR l).length≤1000000:=by rw [zKM]; exact Nat.le_trans (List.length_filter_le _ _) hl
 constructor
 ·refine zG6 ⟨⟨by simp [tstA],hlen,by have:=zp4 hb; simp only [tstA]; omega⟩,fun y hy=>(by cases hy),fun w hw=> ?_⟩
  have hm:=(zFK hw).1
  exact ⟨by have:=zp4 (hit w hm).1; omega,(zew (hvv w hm)).1⟩
 ·rw [zKe,zf6]
  have h1:zcJ (zdR l)≤(zdR l).length*(4096+1):=zIf _ fun w hw=>(zew (hvv w (zFK hw).1)).2.1
  show 2+(zex []+zcJ (zdR l))≤_
  rw [zfC]
  have:=Nat.mul_le_mul hlen (Nat.le_refl (4096+1))
  omega
theorem zUW {d:Nat} (l:List Weighted) (hl:l.length≤1000000) (h:∀ w∈l,zm d w.Ann∧zI w.Ann≤4611686018427387904) (hd:d≤99):zbN l=(true, !l.all fun w=>zC w.Ann):=by
 unfold zbN zdI
 have:zcP l=IG (fun (_:Unit) x=>zk9 x) (l.length+(Int.ofNat l.length).toNat +Int.toNat (0:Int)+(1:Nat)) () l:=rfl
 rw [zmw (P:=fun w=> !zC w.Ann) (this.trans (zFo _ _ _ _ _ (by omega) (fun x hx=>by
  unfold zk9 zqq
  rw [Wy.fin_bn,zMO (h x hx).1 (by omega) (h x hx).2]; rfl) (by omega)))]
 simp [List.all_eq_not_any_not]
theorem zU9 {d:Nat} (fn:Int) (l:List Weighted) (op:Int) (b:Value) (hl:l.length≤1000000) (h:∀ w∈l,zm d w.Ann∧zI w.Ann≤4611686018427387904) (hd:d≤99) (h20:(l.filter hasA).length<20):
  zll fn l op b=(true,zqr fn l op b):=by
 unfold zll ztR zqr
 have hI:=zTB l hl (fun w hw=>(h w hw).1) hd h20
 have hgt:decide (Int.ofNat (zdR l).length>0)=decide (0<(zdR l).length):=zmW _ 0
 simp only [Wy.fin_bn,Wy.fin_i,Wy.fin_k,zLx fn l op b hl,zUW l hl h hd,hI,cond_true,hgt]
 cases hf:fitK fn l op b with
 | false=>rfl
 | true=>
  cases hv:l.all fun w=>zC w.Ann with
  | false=>rfl
  | true=>
   simp only [Bool.not_true,cond_false,Bool.and_self]
   rw [zyM]
   have hx:(⟨4,⟨0,0⟩,[],fn,zdR l,op,b⟩:Atom)=tstA fn (zdR l) op b:=rfl
   rw [hx,zs3 (zBU hl hf hv).1 (by omega) (zBU hl hf hv).2]
   cases decide (0<(zdR l).length) with
   | true=>rfl
   | false=>
    simp only [cond_false,zqa,zTd,cond_true]
    cases fn==0 with
    | false=>rfl
    | true=>
     cases mats op (cmpI 0 b.Int) <;>rfl
theorem zSI {d:Nat} (fn:Int) (l:List Weighted) (op:Int) (b:Value) (hl:l.length≤1000000) (h:∀ w∈l,zm d w.Ann∧zI w.Ann≤4611686018427387904) (hd:d≤99):
  zA2 fn l op b=(true,zqr fn l op b):=by
 unfold zA2 zHg zqr
 have hI:=zSn l hl (fun w hw=>(h w hw).1) hd
 have hgt:decide (0<(zdR l).length)= !((zdR l).length==0):=by rw [zNI,Bool.not_not]
 have hL:zGG (fn.toNat +l.length+op.toNat +Int.toNat (0:Int)+(1:Nat)) fn l op (0:Int) b=(true,bif l.all fun w=>zC w.Ann then .inr (fn,l,op,b) else .inl 1):=by
  have:=zdB (W:=zGl) (z:=.inl default) l.length (fun i=>(fn,l,op,(),(i:Int),())) (fun _=>(b,())) (fun i=>(fun w:Weighted=>zC w.Ann) (l.getD i default)) (.inl 1) (.inr (fn,l,op,b))
   (fun i hi H K D=>by
    show (zqU fn l op i b).ev H K D=_
    unfold zqU
    have hx:=h _ (zp hi)
    simp only [Wy.ev_i,Wy.ev_k,Wy.ev_h,Wy.ev_bn,Wy.ev_d,tT,hi,zLn hx.1 (by omega) hx.2]
    rw [zM (by omega)]
    cases zC (l.getD i default).Ann <;>rfl)
   (fun H K D=>by
    show (zqU fn l op l.length b).ev H K D=_
    unfold zqU
    simp only [Wy.ev_i,Wy.ev_k,tT,Nat.lt_irrefl]) (fn.toNat +l.length+op.toNat +Int.toNat (0:Int)+(1:Nat)) (by omega)
  rw [zsa (fun w:Weighted=>zC w.Ann)] at this
  exact this
 simp only [Wy.fin_bn,Wy.fin_i,Wy.fin_k,zN6 fn l op b hl,hL,cond_true,hgt]
 cases hf:fitK fn l op b with
 | false=>rfl
 | true=>
  cases hv:l.all fun w=>zC w.Ann with
  | false=>rfl
  | true=>
   simp only [Bool.not_true,cond_false,cond_true,Bool.and_self,isL,getR,hI]
   rw [show (Int.ofNat (zdR l).length==(0:Int))=((zdR l).length==0) from zp9 _ 0,zEA]
   have hx:(⟨4,⟨0,0⟩,[],fn,zdR l,op,b⟩:Atom)=tstA fn (zdR l) op b:=rfl
   rw [hx,zEw (zBU hl hf hv).1 (by omega) (zBU hl hf hv).2]
   cases ((zdR l).length==0) with
   | false=>rfl
   | true=>
    obtain ⟨⟨_,_,o1,o2⟩,_⟩:=zoj hf
    simp only [cond_false,Bool.not_true,zlh,zQL o1 o2,cond_true]
    cases fn==0 with
    | false=>rfl
    | true=>
     cases mats op (cmpI 0 b.Int) <;>rfl
def zIg (a:Int) (b:Int):Wy0 (Int):=.k (if 1152921504606846976<IntKind.i64.wrap (a+b) then 1152921504606846976 else IntKind.i64.wrap (a+b))
def zvZ (a:Int) (b:Int):Bool×Int:=(zIg a b).fin default
abbrev zBT:=List Term×Unit×Int×Unit
abbrev ttTref05Put1:=List Term×Int×Term
def zr4 (a:List Term) (i:Int) (t:Term):Wy zBT (Term×Unit) ttTref05Put1:=.i (decide (i<Int.ofNat a.length)) (.i (decide (0≤i)&&decide (i<Int.ofNat a.length)) (.bn (zmv (a.getD i.toNat default).Factors t.Factors) fun r0=>.i (decide (r0<0)) (.h (a,(),(IntKind.i64.wrap (i+1)),()) (t,())) (.k (a,i,t))) .d) (.k (a,i,t))
def zHf (x:zBT) (y:Term×Unit):Wy zBT (Term×Unit) ttTref05Put1:=zr4 x.1 x.2.2.1 y.1
def zG8 (n:Nat) (a:List Term) (i:Int) (t:Term):Bool×ttTref05Put1:=zQ (zHf) default n (a,(),i,()) (t,())
def zJg (a:List Term) (t:Term):Wy0 (List Term):=.bn (zG8 ((a.length+Int.toNat 0+1)+t.Factors.length) a 0 t) fun r3=>.i (decide ((0:Int)≤(0:Int))&&decide (0≤r3.2.1)&&decide (r3.2.1≤Int.ofNat r3.1.length)) (.i (decide ((0+(List.take (r3.2.1.toNat - Int.toNat 0) (List.drop (Int.toNat 0) r3.1)).length)*32≤zK)) (.i (decide (r3.2.1<Int.ofNat r3.1.length)) (.i (decide (0≤r3.2.1)&&decide (r3.2.1<Int.ofNat r3.1.length)) (.bn (zmv (r3.1.getD r3.2.1.toNat default).Factors r3.2.2.Factors) fun r2=>.i (r2==0) (.i (decide (0≤r3.2.1)&&decide (r3.2.1<Int.ofNat r3.1.length)) (.i (decide ((([]++List.take (r3.2.1.toNat - Int.toNat 0) (List.drop (Int.toNat 0) r3.1)).length+[TermOf.mk (zvZ (r3.1.getD r3.2.1.toNat default).Coeff r3.2.2.Coeff).2 r3.2.2.Factors].length)*32≤zK)) (.i (decide (0≤IntKind.i64.wrap (r3.2.1+1))&&decide (IntKind.i64.wrap (r3.2.1+1)≤Int.ofNat r3.1.length)&&decide (Int.ofNat r3.1.length≤Int.ofNat r3.1.length)) (.i (decide ((([]++List.take (r3.2.1.toNat - Int.toNat 0) (List.drop (Int.toNat 0) r3.1)++[TermOf.mk (zvZ (r3.1.getD r3.2.1.toNat default).Coeff r3.2.2.Coeff).2 r3.2.2.Factors]).length+(List.take ((Int.ofNat r3.1.length).toNat - (IntKind.i64.wrap (r3.2.1+1)).toNat) (List.drop (IntKind.i64.wrap (r3.2.1+1)).toNat r3.1)).length)*32≤zK)) (.k ([]++List.take (r3.2.1.toNat - Int.toNat 0) (List.drop (Int.toNat 0) r3.1)++[TermOf.mk (zvZ (r3.1.getD r3.2.1.toNat default).Coeff r3.2.2.Coeff).2 r3.2.2.Factors]++List.take ((Int.ofNat r3.1.length).toNat - (IntKind.i64.wrap (r3.2.1+1)).toNat) (List.drop (IntKind.i64.wrap (r3.2.1+1)).toNat r3.1))) .d) .d) .d) .d) (.i (decide ((([]++List.take (r3.2.1.toNat - Int.toNat 0) (List.drop (Int.toNat 0) r3.1)).length+[r3.2.2].length)*32≤zK)) (.i (decide (0≤r3.2.1)&&decide (r3.2.1≤Int.ofNat r3.1.length)&&decide (Int.ofNat r3.1.length≤Int.ofNat r3.1.length)) (.i (decide ((([]++List.take (r3.2.1.toNat - Int.toNat 0) (List.drop (Int.toNat 0) r3.1)++[r3.2.2]).length+(List.take ((Int.ofNat r3.1.length).toNat - r3.2.1.toNat) (List.drop r3.2.1.toNat r3.1)).length)*32≤zK)) (.k ([]++List.take (r3.2.1.toNat - Int.toNat 0) (List.drop (Int.toNat 0) r3.1)++[r3.2.2]++List.take ((Int.ofNat r3.1.length).toNat - r3.2.1.toNat) (List.drop r3.2.1.toNat r3.1))) .d) .d) .d)) .d) (.i (decide ((([]++List.take (r3.2.1.toNat - Int.toNat 0) (List.drop (Int.toNat 0) r3.1)).length+[r3.2.2].length)*32≤zK)) (.i (decide (0≤r3.2.1)&&decide (r3.2.1≤Int.ofNat r3.1.length)&&decide (Int.ofNat r3.1.length≤Int.ofNat r3.1.length)) (.i (decide ((([]++List.take (r3.2.1.toNat - Int.toNat 0) (List.drop (Int.toNat 0) r3.1)++[r3.2.2]).length+(List.take ((Int.ofNat r3.1.length).toNat - r3.2.1.toNat) (List.drop r3.2.1.toNat r3.1)).length)*32≤zK)) (.k ([]++List.take (r3.2.1.toNat - Int.toNat 0) (List.drop (Int.toNat 0) r3.1)++[r3.2.2]++List.take ((Int.ofNat r3.1.length).toNat - r3.2.1.toNat) (List.drop r3.2.1.toNat r3.1))) .d) .d) .d)) .d) .d
def zDl (a:List Term) (t:Term):Bool×List Term:=(zJg a t).fin default
abbrev zwx:=List Factor×Unit×Int×Unit
abbrev ttTref05factor1:=List Factor×Int×Factor
def zn7 (l:List Factor) (i:Int) (f:Factor):Wy zwx (Factor×Unit) ttTref05factor1:=.i (decide (i<Int.ofNat l.length)) (.i (decide (0≤i)&&decide (i<Int.ofNat l.length)) (.bn (zlQ (Atom.mk (l.getD i.toNat default).Atom.Kind (l.getD i.toNat default).Atom.Row (l.getD i.toNat default).Atom.Args (l.getD i.toNat default).Atom.Func (l.getD i.toNat default).Atom.Items (l.getD i.toNat default).Atom.Op (l.getD i.toNat default).Atom.Bound) (Atom.mk f.Atom.Kind f.Atom.Row f.Atom.Args f.Atom.Func f.Atom.Items f.Atom.Op f.Atom.Bound)) fun r0=>.i (decide (r0<0)) (.h (l,(),(IntKind.i64.wrap (i+1)),()) (f,())) (.k (l,i,f))) .d) (.k (l,i,f))
def zC5 (x:zwx) (y:Factor×Unit):Wy zwx (Factor×Unit) ttTref05factor1:=zn7 x.1 x.2.2.1 y.1
def zDu (n:Nat) (l:List Factor) (i:Int) (f:Factor):Bool×ttTref05factor1:=zQ (zC5) default n (l,(),i,()) (f,())
def zEt (l:List Factor) (f:Factor):Wy0 (List Factor):=.bn (zDu (l.length+Int.toNat 0+f.Atom.Args.length+f.Atom.Items.length+1) l 0 (FactorOf.mk (Atom.mk f.Atom.Kind f.Atom.Row f.Atom.Args f.Atom.Func f.Atom.Items f.Atom.Op f.Atom.Bound) f.Exp)) fun r3=>.i (decide ((0:Int)≤(0:Int))&&decide (0≤r3.2.1)&&decide (r3.2.1≤Int.ofNat r3.1.length)) (.i (decide ((0+(List.take (r3.2.1.toNat - Int.toNat 0) (List.drop (Int.toNat 0) r3.1)).length)*128≤zK)) (.i (decide (r3.2.1<Int.ofNat r3.1.length)) (.i (decide (0≤r3.2.1)&&decide (r3.2.1<Int.ofNat r3.1.length)) (.bn (zlQ (Atom.mk (r3.1.getD r3.2.1.toNat default).Atom.Kind (r3.1.getD r3.2.1.toNat default).Atom.Row (r3.1.getD r3.2.1.toNat default).Atom.Args (r3.1.getD r3.2.1.toNat default).Atom.Func (r3.1.getD r3.2.1.toNat default).Atom.Items (r3.1.getD r3.2.1.toNat default).Atom.Op (r3.1.getD r3.2.1.toNat default).Atom.Bound) (Atom.mk r3.2.2.Atom.Kind r3.2.2.Atom.Row r3.2.2.Atom.Args r3.2.2.Atom.Func r3.2.2.Atom.Items r3.2.2.Atom.Op r3.2.2.Atom.Bound)) fun r2=>.i (r2==0) (.i (decide (r3.2.2.Atom.Kind<3)) (.i (decide (0≤r3.2.1)&&decide (r3.2.1<Int.ofNat r3.1.length)) (.i (decide ((([]++List.take (r3.2.1.toNat - Int.toNat 0) (List.drop (Int.toNat 0) r3.1)).length+[FactorOf.mk (Atom.mk r3.2.2.Atom.Kind r3.2.2.Atom.Row r3.2.2.Atom.Args r3.2.2.Atom.Func r3.2.2.Atom.Items r3.2.2.Atom.Op r3.2.2.Atom.Bound) (IntKind.i64.wrap ((r3.1.getD r3.2.1.toNat default).Exp+r3.2.2.Exp))].length)*128≤zK)) (.i (decide (0≤IntKind.i64.wrap (r3.2.1+1))&&decide (IntKind.i64.wrap (r3.2.1+1)≤Int.ofNat r3.1.length)&&decide (Int.ofNat r3.1.length≤Int.ofNat r3.1.length)) (.i (decide ((([]++List.take (r3.2.1.toNat - Int.toNat 0) (List.drop (Int.toNat 0) r3.1)++[FactorOf.mk (Atom.mk r3.2.2.Atom.Kind r3.2.2.Atom.Row r3.2.2.Atom.Args r3.2.2.Atom.Func r3.2.2.Atom.Items r3.2.2.Atom.Op r3.2.2.Atom.Bound) (IntKind.i64.wrap ((r3.1.getD r3.2.1.toNat default).Exp+r3.2.2.Exp))]).length+(List.take ((Int.ofNat r3.1.length).toNat - (IntKind.i64.wrap (r3.2.1+1)).toNat) (List.drop (IntKind.i64.wrap (r3.2.1+1)).toNat r3.1)).length)*128≤zK)) (.k ([]++List.take (r3.2.1.toNat - Int.toNat 0) (List.drop (Int.toNat 0) r3.1)++[FactorOf.mk (Atom.mk r3.2.2.Atom.Kind r3.2.2.Atom.Row r3.2.2.Atom.Args r3.2.2.Atom.Func r3.2.2.Atom.Items r3.2.2.Atom.Op r3.2.2.Atom.Bound) (IntKind.i64.wrap ((r3.1.getD r3.2.1.toNat default).Exp+r3.2.2.Exp))]++List.take ((Int.ofNat r3.1.length).toNat - (IntKind.i64.wrap (r3.2.1+1)).toNat) (List.drop (IntKind.i64.wrap (r3.2.1+1)).toNat r3.1))) .d) .d) .d) .d) (.i (decide ((([]++List.take (r3.2.1.toNat - Int.toNat 0) (List.drop (Int.toNat 0) r3.1)).length+[FactorOf.mk (Atom.mk r3.2.2.Atom.Kind r3.2.2.Atom.Row r3.2.2.Atom.Args r3.2.2.Atom.Func r3.2.2.Atom.Items r3.2.2.Atom.Op r3.2.2.Atom.Bound) r3.2.2.Exp].length)*128≤zK)) (.i (decide (0≤IntKind.i64.wrap (r3.2.1+1))&&decide (IntKind.i64.wrap (r3.2.1+1)≤Int.ofNat r3.1.length)&&decide (Int.ofNat r3.1.length≤Int.ofNat r3.1.length)) (.i (decide ((([]++List.take (r3.2.1.toNat - Int.toNat 0) (List.drop (Int.toNat 0) r3.1)++[FactorOf.mk (Atom.mk r3.2.2.Atom.Kind r3.2.2.Atom.Row r3.2.2.Atom.Args r3.2.2.Atom.Func r3.2.2.Atom.Items r3.2.2.Atom.Op r3.2.2.Atom.Bound) r3.2.2.Exp]).length+(List.take ((Int.ofNat r3.1.length).toNat - (IntKind.i64.wrap (r3.2.1+1)).toNat) (List.drop (IntKind.i64.wrap (r3.2.1+1)).toNat r3.1)).length)*128≤zK)) (.k ([]++List.take (r3.2.1.toNat - Int.toNat 0) (List.drop (Int.toNat 0) r3.1)++[FactorOf.mk (Atom.mk r3.2.2.Atom.Kind r3.2.2.Atom.Row r3.2.2.Atom.Args r3.2.2.Atom.Func r3.2.2.Atom.Items r3.2.2.Atom.Op r3.2.2.Atom.Bound) r3.2.2.Exp]++List.take ((Int.ofNat r3.1.length).toNat - (IntKind.i64.wrap (r3.2.1+1)).toNat) (List.drop (IntKind.i64.wrap (r3.2.1+1)).toNat r3.1))) .d) .d) .d)) (.i (decide ((([]++List.take (r3.2.1.toNat - Int.toNat 0) (List.drop (Int.toNat 0) r3.1)).length+[FactorOf.mk (Atom.mk r3.2.2.Atom.Kind r3.2.2.Atom.Row r3.2.2.Atom.Args r3.2.2.Atom.Func r3.2.2.Atom.Items r3.2.2.Atom.Op r3.2.2.Atom.Bound) r3.2.2.Exp].length)*128≤zK)) (.i (decide (0≤r3.2.1)&&decide (r3.2.1≤Int.ofNat r3.1.length)&&decide (Int.ofNat r3.1.length≤Int.ofNat r3.1.length)) (.i (decide ((([]++List.take (r3.2.1.toNat - Int.toNat 0) (List.drop (Int.toNat 0) r3.1)++[FactorOf.mk (Atom.mk r3.2.2.Atom.Kind r3.2.2.Atom.Row r3.2.2.Atom.Args r3.2.2.Atom.Func r3.2.2.Atom.Items r3.2.2.Atom.Op r3.2.2.Atom.Bound) r3.2.2.Exp]).length+(List.take ((Int.ofNat r3.1.length).toNat - r3.2.1.toNat) (List.drop r3.2.1.toNat r3.1)).length)*128≤zK)) (.k ([]++List.take (r3.2.1.toNat - Int.toNat 0) (List.drop (Int.toNat 0) r3.1)++[FactorOf.mk (Atom.mk r3.2.2.Atom.Kind r3.2.2.Atom.Row r3.2.2.Atom.Args r3.2.2.Atom.Func r3.2.2.Atom.Items r3.2.2.Atom.Op r3.2.2.Atom.Bound) r3.2.2.Exp]++List.take ((Int.ofNat r3.1.length).toNat - r3.2.1.toNat) (List.drop r3.2.1.toNat r3.1))) .d) .d) .d)) .d) (.i (decide ((([]++List.take (r3.2.1.toNat - Int.toNat 0) (List.drop (Int.toNat 0) r3.1)).length+[FactorOf.mk (Atom.mk r3.2.2.Atom.Kind r3.2.2.Atom.Row r3.2.2.Atom.Args r3.2.2.Atom.Func r3.2.2.Atom.Items r3.2.2.Atom.Op r3.2.2.Atom.Bound) r3.2.2.Exp].length)*128≤zK)) (.i (decide (0≤r3.2.1)&&decide (r3.2.1≤Int.ofNat r3.1.length)&&decide (Int.ofNat r3.1.length≤Int.ofNat r3.1.length)) (.i (decide ((([]++List.take (r3.2.1.toNat - Int.toNat 0) (List.drop (Int.toNat 0) r3.1)++[FactorOf.mk (Atom.mk r3.2.2.Atom.Kind r3.2.2.Atom.Row r3.2.2.Atom.Args r3.2.2.Atom.Func r3.2.2.Atom.Items r3.2.2.Atom.Op r3.2.2.Atom.Bound) r3.2.2.Exp]).length+(List.take ((Int.ofNat r3.1.length).toNat - r3.2.1.toNat) (List.drop r3.2.1.toNat r3.1)).length)*128≤zK)) (.k ([]++List.take (r3.2.1.toNat - Int.toNat 0) (List.drop (Int.toNat 0) r3.1)++[FactorOf.mk (Atom.mk r3.2.2.Atom.Kind r3.2.2.Atom.Row r3.2.2.Atom.Args r3.2.2.Atom.Func r3.2.2.Atom.Items r3.2.2.Atom.Op r3.2.2.Atom.Bound) r3.2.2.Exp]++List.take ((Int.ofNat r3.1.length).toNat - r3.2.1.toNat) (List.drop r3.2.1.toNat r3.1))) .d) .d) .d)) .d) .d
def zBk (l:List Factor) (f:Factor):Bool×List Factor:=(zEt l f).fin default
def zGt (a:Int) (b:Int):Wy0 (Int):=.i (!decide (b=0)) (.i (decide (a>IntKind.i64.wrap (Int.tdiv 1152921504606846976 b))) (.k 1152921504606846976) (.k (IntKind.i64.wrap (a*b)))) .d
def zDU (a:Int) (b:Int):Bool×Int:=(zGt a b).fin default
end Go.Proofs.YtnolcogncjijpaaGreatDoor
end
