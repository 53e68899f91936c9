/- Texts of this claim, joined (the program, its functions in plain words, and what they compute). -/
import Derived.Test.YtnolcogncjijpaaGreatDoorGC6
import Derived.Test.YtnolcogncjijpaaGreatDoorGC3
import Derived.Test.YtnolcogncjijpaaGreatDoorGB1
import Derived.Test.YtnolcogncjijpaaGreatDoorGA3
import Derived.Test.YtnolcogncjijpaaGreatDoorGC1
import Derived.Test.YtnolcogncjijpaaGreatDoorGA2
import Derived.Test.YtnolcogncjijpaaGreatDoorGC5
import Derived.Test.YtnolcogncjijpaaGreatDoorGC4
set_option autoImplicit false
set_option linter.unusedVariables false
set_option linter.unusedSectionVars false
set_option linter.unusedSimpArgs false
set_option maxRecDepth 1000000
set_option maxHeartbeats 0
/- What valid annotations are like; copies. -/
noncomputable section
namespace Go.Proofs.YtnolcogncjijpaaGreatDoor
open Go Go.Ab
theorem zGu {τ:Type} [Inhabited τ] {l:List τ} {x:τ} (h:x∈l):∃ i,i<l.length∧l.getD i default=x:=by
 obtain ⟨i,hi,e⟩:=List.mem_iff_getElem.1 h
 exact ⟨i,hi,by rw [List.getD_eq_getElem?_getD,List.getElem?_eq_getElem hi]; exact e⟩
theorem zBy {vat:Atom→Bool} {a:List Term} (h:vAnn vat a=true):zhL a=true:=by
 simp only [vAnn,Bool.and_eq_true] at h; exact h.1
theorem zqW {vat:Atom→Bool} {a:List Term} (h:vAnn vat a=true) {t:Term} (ht:t∈a):(1≤t.Coeff∧t.Coeff≤1152921504606846976)∧okF vat t.Factors=true:=by
 simp only [vAnn,Bool.and_eq_true] at h
 obtain ⟨i,hi,rfl⟩:=zGu ht
 have:=zd1.1 h.2 i (by omega) (by omega)
 simp only [chkT,Bool.and_eq_true,decide_eq_true_eq] at this
 exact ⟨this.1.1,this.2⟩
theorem znE {vat:Atom→Bool} {fs:List Factor} (h:okF vat fs=true) {f:Factor} (hf:f∈fs):(1≤f.Exp∧(f.Atom.Kind=3∨f.Atom.Kind=4→f.Exp=1))∧vat f.Atom=true:=by
 obtain ⟨i,hi,rfl⟩:=zGu hf
 have:=zd1.1 h i (by omega) (by omega)
 simp only [chkF,Bool.and_eq_true,decide_eq_true_eq] at this
 refine ⟨⟨this.1.1.1,fun hk=> ?_⟩,this.2⟩
 have h2:=this.1.1.2
 rcases hk with hk | hk
 ·rw [hk] at h2; simpa using h2
 ·rw [hk] at h2; simpa using h2
theorem zPD {b:Value} (h:bz b=true):b=⟨0,0,ByteArray.mk #[]⟩:=by
 unfold bz at h
 rw [zE3] at h
 simp only [Bool.and_eq_true,beq_iff_eq,decide_eq_true_eq,and_true] at h
 obtain ⟨k,i,t⟩:=b
 simp only at h
 obtain ⟨rfl,rfl,rfl⟩:=h
 rfl
theorem zun {v:Value} (h:valV v=true):v.Text.size≤255:=by
 simp only [valV,Bool.or_eq_true,Bool.and_eq_true,beq_iff_eq,decide_eq_true_eq] at h
 omega
theorem zDB {x:Atom} (h:plA x=true):x.Func=0∧x.Items=[]∧x.Op=0∧x.Bound=⟨0,0,ByteArray.mk #[]⟩:=by
 simp only [plA,Bool.and_eq_true,beq_iff_eq] at h
 exact ⟨h.1.1.1,List.length_eq_zero_iff.1 h.1.1.2,h.1.2,zPD h.2⟩
theorem zP5 {r:RowID} (h:rz r=true):r=⟨0,0⟩:=by
 simp only [rz,Bool.and_eq_true,beq_iff_eq,and_true] at h
 obtain ⟨t,s⟩:=r
 simp only at h
 obtain ⟨rfl,rfl⟩:=h; rfl
inductive VA (V:List Term→Bool):Atom→Prop
 | var (r:RowID) (h:zzp r=true):VA V ⟨0,r,[],0,[],0,⟨0,0,ByteArray.mk #[]⟩⟩
 | mon (a b:List Term) (ha:V a=true) (hb:V b=true) (ha0:a≠[]) (hb0:b≠[]) (h:a≠b):VA V ⟨1,⟨0,0⟩,[a,b],0,[],0,⟨0,0,ByteArray.mk #[]⟩⟩
 | del (a:List Term) (ha:V a=true) (ha0:a≠[]) (h:isC a=false) (h':isU a=false):VA V ⟨2,⟨0,0⟩,[a],0,[],0,⟨0,0,ByteArray.mk #[]⟩⟩
 | abs (a:List Term) (ha:V a=true) (ha0:a≠[]) (h:hasC a=false):VA V ⟨3,⟨0,0⟩,[a],0,[],0,⟨0,0,ByteArray.mk #[]⟩⟩
 | tst (f:Int) (l:List Weighted) (o:Int) (b:Value) (hl:l≠[]) (hi:∀ w∈l,V w.Ann=true∧w.Ann≠[]) (hs:srtW l=true) (hf:fitK f l o b=true):VA V ⟨4,⟨0,0⟩,[],f,l,o,b⟩
theorem zeQ {V:List Term→Bool} {x:Atom}:zeF V x=true↔VA V x:=by
 constructor
 ·intro h
  have hk:=zu0 h
  obtain ⟨k,r,l,f,its,o,b⟩:=x
  simp only at hk
  unfold zeF at h
  simp only [Bool.and_eq_true] at h
  obtain ⟨h1,h2⟩:=h
  have ha:∀ a∈l,V a=true∧a≠[]:=fun a ha=>by
   have:=List.all_eq_true.1 h1 a ha
   simp only [Bool.and_eq_true,Bool.not_eq_true',beq_eq_false_iff_ne] at this
   exact ⟨this.1,fun e=>this.2 (by rw [e]; rfl)⟩
  by_cases h0:k=0
  ·subst h0
   simp only [if_true,Bool.and_eq_true,beq_iff_eq] at h2
   obtain ⟨e1,e2,e3,e4⟩:=zDB h2.1.1
   simp only at e1 e2 e3 e4
   subst e1 e2 e3 e4
   obtain rfl:l=[]:=List.length_eq_zero_iff.1 h2.2
   exact .var r h2.1.2
  simp only [h0,if_false,Bool.and_eq_true] at h2
  obtain ⟨hr,h2⟩:=h2
  have hr':=zP5 hr
  subst hr'
  by_cases h0':k=1
  ·subst h0'
   simp only [if_true,Bool.and_eq_true] at h2
   obtain ⟨e1,e2,e3,e4⟩:=zDB h2.1
   simp only at e1 e2 e3 e4
   subst e1 e2 e3 e4
   match l,h2.2,ha with
   | [a,b],h3,ha=>exact .mon a b (ha a (by simp)).1 (ha b (by simp)).1 (ha a (by simp)).2 (ha b (by simp)).2 (by simpa [zIc] using h3)
  simp only [h0',if_false] at h2
  by_cases h2':k=2
  ·subst h2'
   simp only [if_true,Bool.and_eq_true] at h2
   obtain ⟨e1,e2,e3,e4⟩:=zDB h2.1
   simp only at e1 e2 e3 e4
   subst e1 e2 e3 e4
   match l,h2.2,ha with
   | [a],h3,ha=>
    simp only [zxf,Bool.and_eq_true,Bool.not_eq_true'] at h3
    exact .del a (ha a (by simp)).1 (ha a (by simp)).2 h3.1 h3.2
  simp only [h2',if_false] at h2
  by_cases h3':k=3
  ·subst h3'
   simp only [if_true,Bool.and_eq_true] at h2
   obtain ⟨e1,e2,e3,e4⟩:=zDB h2.1
   simp only at e1 e2 e3 e4
   subst e1 e2 e3 e4
   match l,h2.2,ha with
   | [a],h3,ha=>
    simp only [zxf,Bool.not_eq_true'] at h3
    exact .abs a (ha a (by simp)).1 (ha a (by simp)).2 h3
  simp only [h3',if_false] at h2
  have h4':k=4:=by omega
  subst h4'
  simp only [if_true,Bool.and_eq_true,beq_iff_eq,decide_eq_true_eq] at h2
  obtain ⟨⟨⟨⟨h3,h4⟩,h5⟩,h6⟩,h7⟩:=h2
  obtain rfl:l=[]:=List.length_eq_zero_iff.1 h3
  exact .tst f its o b (fun e=>by rw [e] at h4; simp at h4) (fun w hw=>by
   have:=List.all_eq_true.1 h5 w hw
   simp only [Bool.and_eq_true,Bool.not_eq_true',beq_eq_false_iff_ne] at this
   exact ⟨this.1,fun e=>this.2 (by rw [e]; rfl)⟩) h6 h7
 ·intro h
  have ne:∀ a:List Term,a≠[]→(a.length==0)=false:=fun a ha=>by
   rw [beq_eq_false_iff_ne]; exact fun e=>ha (List.length_eq_zero_iff.1 e)
  cases h with
  | var r h=>simp [zeF,zmO,plA,bz,h]
  | mon a b ha hb ha0 hb0 h=>simp [zeF,zmO,plA,bz,rz,zIc,ha,hb,ha0,hb0,h]
  | del a ha ha0 h h'=>simp [zeF,zmO,plA,bz,rz,zxf,ha,ha0,h,h']
  | abs a ha ha0 h=>simp [zeF,zmO,plA,bz,rz,zxf,ha,ha0,h]
  | tst f l o b hl hi hs hf=>
   have h1:zus V l=true:=List.all_eq_true.2 fun w hw=>by rw [(hi w hw).1,ne _ (hi w hw).2]; rfl
   have h2:0<l.length:=by
    cases l with
    | nil=>exact absurd rfl hl
    | cons x r=>simp
   simp [zeF,zmO,rz,h1,hs,hf,h2]
theorem zzl {a:List Term} (h:zhL a=true):a.length≤512∧zbf a≤8∧zJ a≤4096∧∀ t∈a,t.Factors.length≤64∧∀ f∈t.Factors,f.Exp≤64∧f.Atom.Items.length≤1024:=by
 simp only [zhL,Bool.and_eq_true,List.all_eq_true,decide_eq_true_eq] at h
 refine ⟨h.1.1.1,h.1.1.2,h.1.2,fun t ht=> ?_⟩
 have:=h.2 t ht
 simp only [withF,Bool.not_eq_true',Bool.or_eq_false_iff,decide_eq_false_iff_not,List.any_eq_false] at this
 refine ⟨by omega,fun f hf=> ?_⟩
 have h2:=this.2 f hf
 simp at h2
 omega
theorem zNm {a:List Term} {t:Term} (h:t∈a):zdJ t.Factors≤zbf a:=by
 induction a with
 | nil=>cases h
 | cons b r ih=>
  rw [zxd]
  rcases List.mem_cons.1 h with rfl | h
  ·omega
  ·have:=ih h; omega
theorem zIO {l:List Factor} {f:Factor} (h:f∈l):zmy f.Atom≤zdJ l:=by
 induction l with
 | nil=>cases h
 | cons b r ih=>
  rw [zu8]
  rcases List.mem_cons.1 h with rfl | h
  ·omega
  ·have:=ih h; omega
theorem zCa {l:List (List Term)} {a:List Term} (h:a∈l):zbf a≤zj2 l:=by
 induction l with
 | nil=>cases h
 | cons b r ih=>
  rw [zvK]
  rcases List.mem_cons.1 h with rfl | h
  ·omega
  ·have:=ih h; omega
theorem zJ8 {l:List Weighted} {w:Weighted} (h:w∈l):zbf w.Ann≤zji l:=by
 induction l with
 | nil=>cases h
 | cons b r ih=>
  rw [ztF]
  rcases List.mem_cons.1 h with rfl | h
  ·omega
  ·have:=ih h; omega
theorem zr8 {f:Int} {l:List Weighted} {o:Int} {b:Value} (h:fitK f l o b=true):(0≤f∧f≤3∧5≤o∧o≤10)∧valV b=true∧∀ w∈l,valV w.Value=true∧w.Value.Kind=b.Kind:=by
 simp only [fitK,Bool.and_eq_true,List.all_eq_true,decide_eq_true_eq] at h
 obtain ⟨⟨⟨⟨⟨⟨h1,h2⟩,h3⟩,h4⟩,h5⟩,h6⟩,h7⟩:=h
 refine ⟨⟨h1,h2,h3,h4⟩,h5,fun w hw=> ?_⟩
 have:=h7 w hw
 simp only [fitI,Bool.and_eq_true,beq_iff_eq] at this
 exact this.1
theorem zHr:∀ (m:Nat) (a:List Term),zbP m a=true→zy (zbf a+1) a
 | 0,a,h=>by cases h
 | m+1,a,h=>by
  have hw:=zzl (zBy h)
  refine ⟨by omega,fun t ht=> ?_⟩
  obtain ⟨_,hok⟩:=zqW h ht
  obtain ⟨h1,h2⟩:=hw.2.2.2 t ht
  refine ⟨by omega,fun f hf=> ?_⟩
  have hv:=zeQ.1 (znE hok hf).2
  have hn:zmy f.Atom≤zbf a:=Nat.le_trans (zIO hf) (zNm ht)
  have h3:=(h2 f hf).2
  generalize f.Atom=x at hv hn h3
  rw [zvN] at hn
  have ih:∀ b,zbP m b=true→zbf b+1≤zbf a→zy (zbf a) b:=fun b hb hl=>(zHr m b hb).mono hl
  cases hv with
  | var r h=>exact ⟨⟨by simp,by simp,by show (ByteArray.mk #[]).size≤_; decide⟩,fun a ha=>(by cases ha),fun w hw=>(by cases hw)⟩
  | mon b c hb hc _ _ _=>
   simp only at hn
   refine ⟨⟨by simp,by simp,by show (ByteArray.mk #[]).size≤_; decide⟩,fun y hy=> ?_,fun w hw=>(by cases hw)⟩
   have:=zCa hy
   simp only at this
   simp only [List.mem_cons,List.not_mem_nil,or_false] at hy
   rcases hy with rfl | rfl
   ·exact ih _ hb (by simp at hn; omega)
   ·exact ih _ hc (by simp at hn; omega)
  | del b hb _ _ _=>
   refine ⟨⟨by simp,by simp,by show (ByteArray.mk #[]).size≤_; decide⟩,fun y hy=> ?_,fun w hw=>(by cases hw)⟩
   have:=zCa hy
   simp only at this
   simp only [List.mem_cons,List.not_mem_nil,or_false] at hy
   subst hy
   exact ih _ hb (by simp at hn; omega)
  | abs b hb _ _=>
   refine ⟨⟨by simp,by simp,by show (ByteArray.mk #[]).size≤_; decide⟩,fun y hy=> ?_,fun w hw=>(by cases hw)⟩
   have:=zCa hy
   simp only at this
   simp only [List.mem_cons,List.not_mem_nil,or_false] at hy
   subst hy
   exact ih _ hb (by simp at hn; omega)
  | tst fn l o b hl hi hs hf=>
   obtain ⟨_,hb,hit⟩:=zr8 hf
   refine ⟨⟨by simp,by simp only at h3 ⊢; omega,by have:=zun hb; simp only; omega⟩,fun y hy=>(by cases hy),fun w hw=>⟨by have:=zun (hit w hw).1; omega, ?_⟩⟩
   have:=zJ8 hw
   simp only at this
   exact ih _ (hi w hw).1 (by simp at hn; omega)
theorem zfE {m:Nat} {a:List Term} (h:zbP m a=true):zy 9 a∧zJ a≤4096∧a.length≤512:=by
 cases m with
 | zero=>cases h
 | succ m=>
 have hw:=zzl (zBy h)
 exact ⟨(zHr _ a h).mono (by omega),hw.2.2.1,hw.1⟩
theorem zJb {d m m':Nat} {a:List Term} (h:zy d a) (hd:d≤100) (h1:d≤m) (h2:d≤m') (hs:zJ a≤4611686018427387904):zbP m a=zbP m' a:=by
 have e1:=(zBs 1000).1 d m a h (by omega) h1 hd hs
 have e2:=(zBs 1000).1 d m' a h (by omega) h2 hd hs
 rw [e1] at e2
 exact (Prod.mk.injEq _ _ _ _ ▸ e2).2
theorem zOG {m:Nat} {a:List Term} (h:zbP m a=true) (hm:9≤m):zbD a=true:=by
 obtain ⟨h1,h2,h3⟩:=zfE h
 rw [← h]; exact zJb h1 (by omega) (by omega) hm (by omega)
theorem zKq {m:Nat} {a:List Term} (h:zbD a=true) (hm:9≤m):zbP m a=true:=by
 obtain ⟨h1,h2,h3⟩:=zfE h
 rw [← h]; exact zJb h1 (by omega) hm (by omega) (by omega)
theorem VA.imp {V V':List Term→Bool} (hV:∀ a,V a=true→V' a=true) {x:Atom} (h:VA V x):VA V' x:=by
 cases h with
 | var r h=>exact .var r h
 | mon a b ha hb ha0 hb0 h=>exact .mon a b (hV a ha) (hV b hb) ha0 hb0 h
 | del a ha ha0 h h'=>exact .del a (hV a ha) ha0 h h'
 | abs a ha ha0 h=>exact .abs a (hV a ha) ha0 h
 | tst f l o b hl hi hs hf=>exact .tst f l o b hl (fun w hw=>⟨hV _ (hi w hw).1,(hi w hw).2⟩) hs hf
def vatA (x:Atom):Bool:=zeF zbD x
theorem zNP {m:Nat} (hm:9≤m):zeF (zbP m)=vatA:=by
 funext x
 rw [Bool.eq_iff_iff]
 unfold vatA
 rw [zeQ,zeQ]
 exact ⟨VA.imp fun a h=>zOG h hm,VA.imp fun a h=>zKq h hm⟩
theorem zHi (a:List Term):zbD a=vAnn vatA a:=by
 show vAnn (zeF (zbP 99)) a=_
 rw [zNP (by omega)]
theorem zG8 {τ:Type} [Inhabited τ] {l:List τ} {i:Nat} (h:i<l.length):l.set i (l.getD i default)=l:=by
 rw [List.getD_eq_getElem?_getD,List.getElem?_eq_getElem h]; simp
section
variable (g:List Term→Bool×List Term) (gx:Atom→Bool×Atom)
theorem cp_7 (t8:List Term) (t9 t10:Int) (out:List Term) (t:Term) (l:List Factor) (hl:l.length≤1000000) (hg:∀ f∈l,gx f.Atom=(true,f.Atom)) (n:Nat) (hn:l.length<n):
  zs1 gx n t8 t9 t10 l.length 0 out t l=(true,(t8,t9,t10,out,t,l)):=by
 have:=zdK (W:=zkm gx) (z:=default) l.length (fun i=>((),(),(),t8,t9,t10,(l.length:Int),(i:Int),())) (fun _=>(out,t,l,())) (fun _=>true) default (t8,t9,t10,out,t,l)
  (fun i hi H K D=>by
   show (zhZ gx t8 t9 t10 l.length i out t l).ev H K D=_
   unfold zhZ
   simp only [Atom.eta,Wy.ev_i,Wy.ev_k,Wy.ev_h,Wy.ev_bn,Wy.ev_d,tT,hi,hg _ (zH hi)]
   rw [zbb (by omega)]
   have:(l.set i (⟨(l.getD i default).Atom,(l.getD i default).Exp⟩:Factor))=l:=zG8 hi
   rw [this])
  (fun H K D=>by
   show (zhZ gx t8 t9 t10 l.length l.length out t l).ev H K D=_
   unfold zhZ
   simp only [Wy.ev_i,Wy.ev_k,tT,Nat.lt_irrefl]) n hn
 rw [show allN (fun _=>true) l.length 0=true from zd1.2 fun _ _ _=>rfl] at this
 exact this
theorem cp_3 (a:List Term) (hl:a.length≤1000000) (hg:∀ t∈a,t.Factors.length≤1000000∧∀ f∈t.Factors,gx f.Atom=(true,f.Atom)) (n:Nat) (hn:a.length<n):
  ztl gx n a a.length 0 []=(true,a):=by
 have hreach:zT=70368744177664:=rfl
 have:=zdK (W:=zkk gx) (z:=default) a.length (fun i=>((),a,(a.length:Int),(i:Int),())) (fun i=>(a.take i,())) (fun _=>true) default a
  (fun i hi H K D=>by
   show (zh6 gx a a.length i (a.take i)).ev H K D=_
   unfold zh6 zd9
   obtain ⟨h1,h2⟩:=hg _ (zH hi)
   have hb:decide ((a.getD i default).Factors.length*128≤zT)=true:=by simp only [decide_eq_true_eq]; omega
   simp only [Wy.ev_i,Wy.ev_k,Wy.ev_h,Wy.ev_bn,Wy.ev_d,tT,hi,hb]
   rw [cp_7 gx a a.length i (a.take i) _ _ h1 h2 _ (by omega)]
   have hb2:decide (((a.take i).length+1)*32≤zT)=true:=by simp only [decide_eq_true_eq,List.length_take]; omega
   simp only [cond_true,List.length_singleton,hb2]
   rw [zbb (by omega),zj4 hi])
  (fun H K D=>by
   show (zh6 gx a a.length a.length (a.take a.length)).ev H K D=_
   unfold zh6
   simp only [Wy.ev_i,Wy.ev_k,tT,Nat.lt_irrefl,List.take_length]) n hn
 rw [show allN (fun _=>true) a.length 0=true from zd1.2 fun _ _ _=>rfl] at this
 exact this
end
def txV (v:Value):List UInt8:=if v.Kind=0 then zha v.Int else if v.Kind=1 then 39::(v.Text.data.toList.flatMap esc++[39]) else if v.Int=1 then [84,82,85,69] else [70,65,76,83,69]
def txR (r:RowID):List UInt8:=116::(zha r.Table++46::zha r.Seq)
def fnT (f:Int):List UInt8:=if f=0 then [67,79,85,78,84] else if f=1 then [83,85,77] else if f=2 then [77,73,78] else [77,65,88]
def opT (o:Int):List UInt8:=if o=5 then [61] else if o=6 then [60,62] else if o=7 then [60] else if o=8 then [60,61] else if o=9 then [62] else [62,61]
def zDc (ts:List (List UInt8)):List UInt8:=if ts=[] then [48] else zdR ts [32,43,32]
def zFo (c:Int) (fs:List (List UInt8)):List UInt8:=if fs=[] then zha c else if c=1 then zdR fs [42] else zha c++42::zdR fs [42]
def zBF (x:List UInt8) (e:Int):List UInt8:=if e=1 then x else x++94::zha e
def zcD (k:Int) (r:RowID) (xs:List (List UInt8)) (f:Int) (is:List (List UInt8)) (o:Int) (b:Value):List UInt8:=
 if k=0 then txR r
 else if k=1 then [109,111,110,117,115,91]++(xs.getD 0 []++([44,32]++(xs.getD 1 []++[93])))
 else if k=2 then [100,101,108,116,97,91]++(xs.getD 0 []++[93])
 else if k=3 then [97,98,115,101,110,116,91]++(xs.getD 0 []++[93])
 else [116,101,115,116,91]++(fnT f++([123]++(zdR is [59,32]++([125,32]++(opT o++([32]++(txV b++[93])))))))
mutual
def txA:Atom→List UInt8
 | ⟨k,r,a,f,i,o,b⟩=>zcD k r (txAs a) f (txIs i) o b
def txFs:List Factor→List (List UInt8)
 | []=>[]
 | ⟨x,e⟩::l=>zBF (txA x) e::txFs l
def txTs:List Term→List (List UInt8)
 | []=>[]
 | ⟨c,fs⟩::l=>zFo c (txFs fs)::txTs l
def txAs:List (List Term)→List (List UInt8)
 | []=>[]
 | a::l=>zDc (txTs a)::txAs l
def txIs:List Weighted→List (List UInt8)
 | []=>[]
 | ⟨v,a⟩::l=>(txV v++([58,32]++zDc (txTs a)))::txIs l
end
def txF (f:Factor):List UInt8:=zBF (txA f.Atom) f.Exp
def txT (t:Term):List UInt8:=zFo t.Coeff (txFs t.Factors)
def txN (a:List Term):List UInt8:=zDc (txTs a)
def txI (w:Weighted):List UInt8:=txV w.Value++([58,32]++txN w.Ann)
theorem zqV:∀ l,txFs l=l.map txF
 | []=>by rw [txFs]; rfl
 | x::r=>by rw [txFs,zqV r]; rfl
theorem zDx:∀ l,txTs l=l.map txT
 | []=>by rw [txTs]; rfl
 | x::r=>by rw [txTs,zDx r]; rfl
theorem zj1:∀ l,txAs l=l.map txN
 | []=>by rw [txAs]; rfl
 | x::r=>by rw [txAs,zj1 r]; rfl
theorem zzW:∀ l,txIs l=l.map txI
 | []=>by rw [txIs]; rfl
 | x::r=>by rw [txIs,zzW r]; rfl
theorem zQZ (x:Atom):txA x=zcD x.Kind x.Row (txAs x.Args) x.Func (txIs x.Items) x.Op x.Bound:=by cases x; rw [txA]
def txL (l:List Factor):List UInt8:=zdR (txFs l) [42]
theorem zCu {v:Value} (h:valV v=true):(txV v).length≤512:=by
 have ht:=zun h
 unfold txV
 have h1:=zmf v.Int
 have h2:=zIC v.Text.data.toList
 have h3:v.Text.data.toList.length=v.Text.size:=by rw [Array.length_toList]; rfl
 split
 ·omega
 ·split
  ·simp only [List.length_cons,List.length_append,List.length_nil]; omega
  ·split <;>simp
theorem zP6 (r:RowID):(txR r).length≤44:=by
 have h1:=zmf r.Table
 have h2:=zmf r.Seq
 simp only [txR,List.length_cons,List.length_append]; omega
theorem zLN (f:Int):(fnT f).length≤5:=by unfold fnT; (repeat' split) <;>simp
theorem zMq (f:Int):(opT f).length≤2:=by unfold opT; (repeat' split) <;>simp
theorem zDe {α:Type} (t:α→List UInt8) (m:α→Nat) (s:List UInt8):∀ l:List α,(∀ x∈l,(t x).length+s.length≤m x)→(zdR (l.map t) s).length≤(l.map m).sum
 | [],_=>by simp [zdR]
 | [x],h=>by
  have:=h x (by simp)
  simp only [List.map,zdR,List.sum_cons,List.sum_nil]; omega
 | x::y::r,h=>by
  have h1:=h x (by simp)
  have h2:=zDe t m s (y::r) fun z hz=>h z (List.mem_cons_of_mem _ hz)
  simp only [List.map,zdR,List.length_append,List.sum_cons] at h2 ⊢
  omega
theorem zGF:∀ l:List Factor,(l.map fun f=>1000+1000*zeq f.Atom).sum=1000*(l.length+zbA l)
 | []=>by rw [zmq]; rfl
 | f::r=>by rw [List.map_cons,List.sum_cons,zGF r,zeE,List.length_cons]; omega
theorem zJq:∀ l:List Term,(l.map fun t=>1000+1000*(t.Factors.length+zbA t.Factors)).sum=1000*zJ l
 | []=>by rw [zr3]; rfl
 | f::r=>by rw [List.map_cons,List.sum_cons,zJq r,zh1]; omega
theorem zIU:∀ l:List Weighted,(l.map fun t=>1000+1000*zJ t.Ann).sum=1000*zc9 l
 | []=>by rw [zgD]; rfl
 | f::r=>by rw [List.map_cons,List.sum_cons,zIU r,zic]; omega
theorem zQh {x:Atom} {e:Int} (h:(txA x).length≤700+1000*zeq x):(zBF (txA x) e).length+1≤1000+1000*zeq x:=by
 have:=zmf e
 unfold zBF
 split
 ·omega
 ·simp only [List.length_append,List.length_cons]; omega
theorem zKy {l:List Factor} (h:∀ f∈l,(txA f.Atom).length≤700+1000*zeq f.Atom):(txL l).length≤1000*(l.length+zbA l):=by
 unfold txL
 rw [zqV, ← zGF]
 exact zDe txF (fun f=>1000+1000*zeq f.Atom) [42] l fun f hf=>zQh (h f hf)
theorem zF9:∀ (m:Nat),(∀ a,zbP m a=true→(txN a).length≤1+1000*zJ a)∧(∀ x,zeF (zbP m) x=true→(txA x).length≤700+1000*zeq x)
 | m=>by
  have hA:∀ (V:List Term→Bool),(∀ a,V a=true→(txN a).length≤1+1000*zJ a)→∀ x,zeF V x=true→(txA x).length≤700+1000*zeq x:=by
   intro V hV x hx
   rw [zif]
   cases zeQ.1 hx with
   | var r h=>
    rw [txA]; have:=zP6 r
    simp only [zcD,if_true]; omega
   | mon a b ha hb _ _ _=>
    have h1:=hV a ha; have h2:=hV b hb
    rw [txA,zj1]
    simp only [zcD,zdX,zhY,zgD,List.map,List.getD_cons_zero,List.getD_cons_succ,List.length_append,List.length_cons,List.length_nil]
    simp only [show ¬ (1:Int)=0 by decide,if_false,if_true,List.length_append,List.length_cons,List.length_nil]
    omega
   | del a ha _ _ _=>
    have h1:=hV a ha
    rw [txA,zj1]
    simp only [zcD,zdX,zhY,zgD,List.map,List.getD_cons_zero]
    simp only [show ¬ (2:Int)=0 by decide,show ¬ (2:Int)=1 by decide,if_false,if_true,List.length_append,List.length_cons,List.length_nil]
    omega
   | abs a ha _ _=>
    have h1:=hV a ha
    rw [txA,zj1]
    simp only [zcD,zdX,zhY,zgD,List.map,List.getD_cons_zero]
    simp only [show ¬ (3:Int)=0 by decide,show ¬ (3:Int)=1 by decide,show ¬ (3:Int)=2 by decide,if_false,if_true,List.length_append,List.length_cons,List.length_nil]
    omega
   | tst f l o b hl hi hs hf=>
    obtain ⟨_,hb,hit⟩:=zr8 hf
    have h1:=zLN f; have h2:=zMq o; have h3:=zCu hb
    have h4:(zdR (l.map txI) [59,32]).length≤1000*zc9 l:=by
     rw [← zIU]
     refine zDe txI (fun w=>1000+1000*zJ w.Ann) [59,32] l fun w hw=> ?_
     have h5:=hV _ (hi w hw).1; have h6:=zCu (hit w hw).1
     simp only [txI,List.length_append,List.length_cons,List.length_nil]; omega
    rw [txA,zzW]
    simp only [zcD,zhY]
    simp only [show ¬ (4:Int)=0 by decide,show ¬ (4:Int)=1 by decide,show ¬ (4:Int)=2 by decide,show ¬ (4:Int)=3 by decide,if_false,List.length_append,List.length_cons,List.length_nil]
    omega
  have hN:∀ a,zbP m a=true→(txN a).length≤1+1000*zJ a:=by
   induction m with
   | zero=>intro a h; cases h
   | succ m ih=>
    intro a h
    unfold txN zDc
    split
    ·simp
    ·rw [zDx, ← zJq]
     refine Nat.le_trans (zDe txT (fun t=>1000+1000*(t.Factors.length+zbA t.Factors)) [32,43,32] a fun t ht=> ?_) (Nat.le_add_left _ _)
     have hok:=(zqW h ht).2
     have h5:=zKy (l:=t.Factors) fun f hf=>hA _ ih _ (znE hok hf).2
     have h6:=zmf t.Coeff
     have e:(zdR (txFs t.Factors) [42]).length=(txL t.Factors).length:=rfl
     unfold txT zFo
     simp only [List.length_cons,List.length_nil]
     split
     ·omega
     ·split
      ·omega
      ·simp only [List.length_append,List.length_cons]; omega
  exact ⟨hN,hA _ hN⟩
theorem zj5 {n:Int} (h:wf3 n): -9223372036854775808≤n∧n≤9223372036854775807:=by
 have h:(Lit.int .i64 n).wf=true:=h
 have:IntKind.i64.min≤n∧n≤IntKind.i64.max:=by simpa [Lit.wf] using h
 exact ⟨this.1,this.2⟩
def rng (n:Int):Prop:= -9223372036854775808≤n∧n≤9223372036854775807
instance (n:Int):Decidable (rng n):=by unfold rng; infer_instance
theorem zG1 {n:Int} (h:rng n):strconv_Itoa n=(true,bs (zha n)):=by
 unfold strconv_Itoa zDr zBv
 rw [decide_eq_true h.1,decide_eq_true h.2]; rfl
theorem zMt {n:Int} (h:rng n):zhC n 10=(true,bs (zha n)):=by
 unfold zhC zpw zBv
 rw [decide_eq_true h.1,decide_eq_true h.2]; rfl
theorem okS (n m:Nat) (h:n+m≤9223372036854775807):decide (n+m≤9223372036854775807)=true:=decide_eq_true h
theorem zOJ {r:RowID} (h:zzp r=true) (h1:rng r.Table) (h2:rng r.Seq):zpF r=(true,bs (txR r)):=by
 unfold zpF zvw txR
 have l1:=zmf r.Table
 have l2:=zmf r.Seq
 rw [show ByteArray.mk #[(116:UInt8)]=bs [116] from rfl,show ByteArray.mk #[(46:UInt8)]=bs [46] from rfl]
 simp only [Wy.fin_bn,Wy.fin_i,Wy.fin_k,zBr,h,zG1 h1,zG1 h2,cond_true,cond_false,Bool.not_true,zu3,zoC,List.length_append,List.length_cons,List.length_nil]
 rw [okS _ _ (by omega),okS _ _ (by omega),okS _ _ (by omega)]
 simp
theorem zJ6 {v:Value} (h:valV v=true) (hr:rng v.Int):zoE v=(true,bs (txV v)):=by
 unfold zoE zwt txV strings_ReplaceAll
 have ht:=zun h
 rw [show ByteArray.mk #[(39:UInt8)]=bs [39] from rfl,show ByteArray.mk #[(39:UInt8),(39:UInt8)]=bs [39,39] from rfl]
 simp only [Wy.fin_bn,Wy.fin_i,Wy.fin_k,zw7,h,zMt hr,zIp _ ht,cond_true,cond_false,Bool.not_true,zu3,zoC,List.length_append,List.length_cons,List.length_nil]
 have h2:=zIC v.Text.data.toList
 have h3:v.Text.data.toList.length=v.Text.size:=by rw [Array.length_toList]; rfl
 rw [okS _ _ (by omega),okS _ _ (by omega)]
 by_cases k0:v.Kind=0
 ·simp [k0]
 by_cases k1:v.Kind=1
 ·simp [k1]
 simp only [beqd,k0,k1,decide_false,cond_false,if_false]
 by_cases i1:v.Int=1
 ·simp only [i1,decide_true,cond_true,if_true]; rfl
 ·simp only [i1,decide_false,cond_false,if_false]; rfl
theorem zP2 {f:Int} (h0:0≤f) (h3:f≤3):(decide ((0:Int)≤f)&&decide (f<Int.ofNat zbG.snd.length))=true∧zbG.snd.getD f.toNat default=bs (fnT f):=by
 have hc:f=0∨f=1∨f=2∨f=3:=by omega
 rcases hc with rfl | rfl | rfl | rfl <;>exact ⟨rfl,rfl⟩
theorem zPW {o:Int} (h0:5≤o) (h3:o≤10):(decide ((0:Int)≤IntKind.i64.wrap (o - 5))&&decide (IntKind.i64.wrap (o - 5)<Int.ofNat zcL.snd.length))=true∧zcL.snd.getD (IntKind.i64.wrap (o - 5)).toNat default=bs (opT o):=by
 have hc:o=5∨o=6∨o=7∨o=8∨o=9∨o=10:=by omega
 rcases hc with rfl | rfl | rfl | rfl | rfl | rfl <;>exact ⟨rfl,rfl⟩
theorem zGC {m:Nat} {x:Atom} (h:zeF (zbP m) x=true) (hi:x.Items.length≤1024):zeq x≤4195328:=by
 rw [zif]
 cases zeQ.1 h with
 | var r h=>rw [zhY,zgD]; omega
 | mon a b ha hb _ _ _=>
  have h1:=(zfE ha).2.1; have h2:=(zfE hb).2.1
  simp only [zdX,zhY,zgD]; omega
 | del a ha _ _ _=>
  have h1:=(zfE ha).2.1
  simp only [zdX,zhY,zgD]; omega
 | abs a ha _ _=>
  have h1:=(zfE ha).2.1
  simp only [zdX,zhY,zgD]; omega
 | tst f l o b hl hv hs hf=>
  have h1:∀ l:List Weighted,(∀ w∈l,zJ w.Ann≤4096)→zc9 l≤l.length*4097:=fun l=>by
   induction l with
   | nil=>intro _; rw [zgD]; omega
   | cons w r ih=>
    intro h
    have:=h w (by simp)
    have:=ih fun w hw=>h w (by simp [hw])
    rw [zic,List.length_cons,Nat.add_mul]; omega
  have:=h1 l fun w hw=>(zfE (hv w hw).1).2.1
  have:=Nat.mul_le_mul hi (Nat.le_refl 4097)
  simp only [zhY] at this ⊢; omega
section
variable (gA:Atom→Bool×ByteArray) (gF:List Factor→Bool×ByteArray) (gT:List Term→Bool×ByteArray)
theorem zQw (l:List Factor) (hl:l.length≤1000) (hg:∀ f∈l,gA f.Atom=(true,bs (txA f.Atom))∧(txA f.Atom).length≤4200000000∧rng f.Exp):zfg gA l=(true,bs (txL l)):=by
 have hreach:zT=70368744177664:=rfl
 unfold zfg zj8
 have:=zdK (W:=zgp gA) (z:=default) l.length (fun i=>((),l,(l.length:Int),(i:Int),())) (fun i=>((l.take i).map fun f=>bs (txF f),())) (fun _=>true) default (l.map fun f=>bs (txF f))
  (fun i hi H K D=>by
   show (zea gA l l.length i ((l.take i).map fun f=>bs (txF f))).ev H K D=_
   unfold zea
   obtain ⟨h1,h2,h3⟩:=hg _ (zH hi)
   have l1:=zmf (l.getD i default).Exp
   rw [show ByteArray.mk #[(94:UInt8)]=bs [94] from rfl]
   simp only [Atom.eta,Wy.ev_i,Wy.ev_k,Wy.ev_h,Wy.ev_bn,Wy.ev_d,tT,hi,h1,zG1 h3,zu3,zoC,List.length_append,List.length_cons,List.length_nil]
   rw [okS _ _ (by omega),okS _ _ (by omega),zbb (by omega),zj4 hi,List.map_append]
   have hb:decide ((((l.take i).map fun f=>bs (txF f)).length+1)*16≤zT)=true:=by simp only [decide_eq_true_eq,List.length_map,List.length_take]; omega
   generalize ((l.take i).map fun f=>bs (txF f))=out at hb ⊢
   have hb':decide ((out.length+(0+1))*16≤zT)=true:=hb
   simp only [hb,hb',cond_true,List.map_cons,List.map_nil,txF,zBF,bne0]
   by_cases he:(l.getD i default).Exp=1
   ·simp only [he,decide_true,Bool.not_true,cond_false,if_true]
   ·simp only [he,decide_false,Bool.not_false,cond_true,if_false,List.singleton_append])
  (fun H K D=>by
   show (zea gA l l.length l.length ((l.take l.length).map fun f=>bs (txF f))).ev H K D=_
   unfold zea
   simp only [Wy.ev_i,Wy.ev_k,tT,Nat.lt_irrefl,List.take_length]) (l.length+(Int.ofNat l.length).toNat +Int.toNat (0:Int)+(0:Nat)+(1:Nat)) (by omega)
 rw [show allN (fun _=>true) l.length 0=true from zd1.2 fun _ _ _=>rfl] at this
 have e:zn2 gA (l.length+(Int.ofNat l.length).toNat +Int.toNat (0:Int)+(0:Nat)+(1:Nat)) l (Int.ofNat l.length) (0:Int) []=(true,(l.map txF).map bs):=by rw [List.map_map]; exact this
 have hlen:(zdR (l.map txF) [42]).length≤140737488355328:=by
  refine Nat.le_trans (zFO (B:=4200001000) (l.map txF) [42] fun x hx=> ?_) (by
   rw [List.length_map]; have:=Nat.mul_le_mul hl (Nat.le_refl 4200001000); omega)
  obtain ⟨f,hf,rfl⟩:=List.mem_map.1 hx
  have:=(hg f hf).2.1
  have:=zmf f.Exp
  unfold txF zBF
  split
  ·simp only [List.length_cons,List.length_nil]; omega
  ·simp only [List.length_append,List.length_cons,List.length_nil]; omega
 rw [Wy.fin_bn,e,show ByteArray.mk #[(42:UInt8)]=bs [42] from rfl]
 unfold strings_Join
 simp only [cond_true,Wy.fin_bn,Wy.fin_k,zGQ _ _ (by rw [List.length_map]; omega) hlen]
 unfold txL
 rw [zqV]
theorem zQK (a:List Term) (hl:a.length≤1000) (hlen:(txN a).length≤140737488355328) (hg:∀ t∈a,gF t.Factors=(true,bs (txL t.Factors))∧(txL t.Factors).length≤4200000000∧rng t.Coeff):zlI gF a=(true,bs (txN a)):=by
 have hreach:zT=70368744177664:=rfl
 unfold zlI zqp
 by_cases h0:a=[]
 ·subst h0
  have e:txN []=[48]:=by unfold txN; rw [txTs]; rfl
  rw [e]; rfl
 have hne:(Int.ofNat a.length==(0:Int))=false:=by
  rw [beq_eq_false_iff_ne]; intro e
  have:(a.length:Int)=0:=e
  exact h0 (List.length_eq_zero_iff.1 (by omega))
 have:=zdK (W:=zlP gF) (z:=default) a.length (fun i=>((),a,(a.length:Int),(i:Int),())) (fun i=>((a.take i).map fun f=>bs (txT f),())) (fun _=>true) default (a.map fun f=>bs (txT f))
  (fun i hi H K D=>by
   show (ziY gF a a.length i ((a.take i).map fun f=>bs (txT f))).ev H K D=_
   unfold ziY
   obtain ⟨h1,h2,h3⟩:=hg _ (zH hi)
   have l1:=zmf (a.getD i default).Coeff
   rw [show ByteArray.mk #[(42:UInt8)]=bs [42] from rfl]
   have hL:decide ((i:Int)<(a.length:Int))=true:=by simp [hi]
   have hL':decide ((i:Int)<Int.ofNat a.length)=true:=hL
   simp only [Wy.ev_i,Wy.ev_k,Wy.ev_h,Wy.ev_bn,Wy.ev_d,hL,hL',zfj,Bool.and_self,cond_true,Int.toNat_natCast,h1,zMt h3,zu3,zoC,List.length_append,List.length_cons,List.length_nil,show (Int.ofNat (a.getD i default).Factors.length==(0:Int))=((a.getD i default).Factors.length==0) from zr9 _ 0]
   rw [okS _ _ (by omega),okS _ _ (by omega),zbb (by omega),zj4 hi,List.map_append]
   have hb:decide ((((a.take i).map fun f=>bs (txT f)).length+1)*16≤zT)=true:=by simp only [decide_eq_true_eq,List.length_map,List.length_take]; omega
   generalize ((a.take i).map fun f=>bs (txT f))=out at hb ⊢
   have hb':decide ((out.length+(0+1))*16≤zT)=true:=hb
   simp only [hb,hb',cond_true,List.map_cons,List.map_nil,txT,zFo,beqd]
   have e0:(txFs (a.getD i default).Factors=[])↔(a.getD i default).Factors.length=0:=by
    rw [zqV,List.map_eq_nil_iff,List.length_eq_zero_iff]
   by_cases hf:(a.getD i default).Factors.length=0
   ·rw [if_pos (e0.2 hf),hf]; rfl
   ·rw [if_neg (fun e=>hf (e0.1 e)),beqn,decide_eq_false hf]
    by_cases he:(a.getD i default).Coeff=1
    ·simp only [he,decide_true,cond_true,cond_false,if_true,txL]
    ·simp only [he,decide_false,cond_false,if_false,txL,List.append_assoc,List.singleton_append])
  (fun H K D=>by
   show (ziY gF a a.length a.length ((a.take a.length).map fun f=>bs (txT f))).ev H K D=_
   unfold ziY
   simp only [Wy.ev_i,Wy.ev_k,tT,Nat.lt_irrefl,List.take_length]) (a.length+(Int.ofNat a.length).toNat +Int.toNat (0:Int)+(0:Nat)+(1:Nat)) (by omega)
 rw [show allN (fun _=>true) a.length 0=true from zd1.2 fun _ _ _=>rfl] at this
 have e:zvF gF (a.length+(Int.ofNat a.length).toNat +Int.toNat (0:Int)+(0:Nat)+(1:Nat)) a (Int.ofNat a.length) (0:Int) []=(true,(a.map txT).map bs):=by rw [List.map_map]; exact this
 have ex:txN a=zdR (a.map txT) [32,43,32]:=by
  unfold txN zDc
  rw [zDx,if_neg (by simpa using h0)]
 rw [ex] at hlen ⊢
 rw [Wy.fin_i,hne,cond_false,Wy.fin_bn,e,show ByteArray.mk #[(32:UInt8),(43:UInt8),(32:UInt8)]=bs [32,43,32] from rfl]
 unfold strings_Join
 simp only [cond_true,Wy.fin_bn,Wy.fin_k,zGQ _ _ (by rw [List.length_map]; omega) hlen]
theorem zQC {V:List Term→Bool} (x:Atom) (hx:zeF V x=true) (hw:zjY x) (hi:x.Items.length≤1024) (hg:∀ a,(a∈x.Args∨∃ w∈x.Items,a=w.Ann)→gT a=(true,bs (txN a))∧(txN a).length≤4200000000):zhr gT x=(true,bs (txA x)):=by
 have hreach:zT=70368744177664:=rfl
 have W:=zvk hw
 unfold zhr zl5
 rw [zQZ]
 cases zeQ.1 hx with
 | var r h=>
  have hr:=W.2.2.2.2.1
  simp only [Wy.fin_bn,Wy.fin_i,Wy.fin_k,zOJ h (zj5 hr.1) (zj5 hr.2)]
  simp [zcD]
 | mon a b ha hb _ _ _=>
  obtain ⟨g1,l1⟩:=hg a (.inl (by simp))
  obtain ⟨g2,l2⟩:=hg b (.inl (by simp))
  rw [zj1]
  simp only [List.map,zcD,List.getD_cons_zero,List.getD_cons_succ,show ¬ (1:Int)=0 by decide,if_false,if_true]
  rw [show ByteArray.mk #[(109:UInt8),(111:UInt8),(110:UInt8),(117:UInt8),(115:UInt8),(91:UInt8)]=bs [109,111,110,117,115,91] from rfl,show ByteArray.mk #[(44:UInt8),(32:UInt8)]=bs [44,32] from rfl,show ByteArray.mk #[(93:UInt8)]=bs [93] from rfl]
  simp only [cond_true,cond_false,Wy.fin_i,Wy.fin_bn,Wy.fin_k,show ((1:Int)==0)=false from rfl,show ((1:Int)==1)=true from rfl,show (decide ((0:Int)≤0)&&decide ((0:Int)<Int.ofNat [a,b].length))=true from rfl,show (decide ((0:Int)≤1)&&decide ((1:Int)<Int.ofNat [a,b].length))=true from rfl,show [a,b].getD (Int.toNat 0) default=a from rfl,show [a,b].getD (Int.toNat 1) default=b from rfl,g1,g2,zu3,zoC,List.length_append,List.length_cons,List.length_nil]
  rw [okS _ _ (by omega),okS _ _ (by omega),okS _ _ (by omega),okS _ _ (by omega)]
  simp
 | del a ha _ _ _=>
  obtain ⟨g1,l1⟩:=hg a (.inl (by simp))
  rw [zj1]
  simp only [List.map,zcD,List.getD_cons_zero,show ¬ (2:Int)=0 by decide,show ¬ (2:Int)=1 by decide,if_false,if_true]
  rw [show ByteArray.mk #[(100:UInt8),(101:UInt8),(108:UInt8),(116:UInt8),(97:UInt8),(91:UInt8)]=bs [100,101,108,116,97,91] from rfl,show ByteArray.mk #[(93:UInt8)]=bs [93] from rfl]
  simp only [cond_true,cond_false,Wy.fin_i,Wy.fin_bn,Wy.fin_k,show ((2:Int)==0)=false from rfl,show ((2:Int)==1)=false from rfl,show ((2:Int)==2)=true from rfl,show (decide ((0:Int)≤0)&&decide ((0:Int)<Int.ofNat [a].length))=true from rfl,show [a].getD (Int.toNat 0) default=a from rfl,g1,zu3,zoC,List.length_append,List.length_cons,List.length_nil]
  rw [okS _ _ (by omega),okS _ _ (by omega)]
  simp
 | abs a ha _ _=>
  obtain ⟨g1,l1⟩:=hg a (.inl (by simp))
  rw [zj1]
  simp only [List.map,zcD,List.getD_cons_zero,show ¬ (3:Int)=0 by decide,show ¬ (3:Int)=1 by decide,show ¬ (3:Int)=2 by decide,if_false,if_true]
  rw [show ByteArray.mk #[(97:UInt8),(98:UInt8),(115:UInt8),(101:UInt8),(110:UInt8),(116:UInt8),(91:UInt8)]=bs [97,98,115,101,110,116,91] from rfl,show ByteArray.mk #[(93:UInt8)]=bs [93] from rfl]
  simp only [cond_true,cond_false,Wy.fin_i,Wy.fin_bn,Wy.fin_k,show ((3:Int)==0)=false from rfl,show ((3:Int)==1)=false from rfl,show ((3:Int)==2)=false from rfl,show ((3:Int)==3)=true from rfl,show (decide ((0:Int)≤0)&&decide ((0:Int)<Int.ofNat [a].length))=true from rfl,show [a].getD (Int.toNat 0) default=a from rfl,g1,zu3,zoC,List.length_append,List.length_cons,List.length_nil]
  rw [okS _ _ (by omega),okS _ _ (by omega)]
  simp
 | tst f l o b hl hv hs hf=>
  obtain ⟨⟨f0,f3,o5,o10⟩,hb,hit⟩:=zr8 hf
  have hwl:=zqb W.2.1.1
  have hwb:rng b.Int:=zj5 W.2.2.1.2.1
  have:=zdK (W:=zhW gT) (z:=default) l.length (fun i=>((),(),l,(l.length:Int),(i:Int),())) (fun i=>((⟨4,⟨0,0⟩,[],f,l,o,b⟩:Atom),(l.take i).map fun w=>bs (txI w),())) (fun _=>true) default ((⟨4,⟨0,0⟩,[],f,l,o,b⟩:Atom),l.map fun w=>bs (txI w))
   (fun i hi' H K D=>by
    show (zeO gT l l.length i (⟨4,⟨0,0⟩,[],f,l,o,b⟩:Atom) ((l.take i).map fun w=>bs (txI w))).ev H K D=_
    unfold zeO
    have hm:=zH hi'
    obtain ⟨g1,l1⟩:=hg _ (.inr ⟨_,hm,rfl⟩)
    have l2:=zCu (hit _ hm).1
    rw [show ByteArray.mk #[(58:UInt8),(32:UInt8)]=bs [58,32] from rfl]
    simp only [Wy.ev_i,Wy.ev_k,Wy.ev_h,Wy.ev_bn,Wy.ev_d,tT,hi',zJ6 (hit _ hm).1 (zj5 (hwl _ hm).1.2.1),g1,zu3,zoC,List.length_append,List.length_cons,List.length_nil]
    rw [okS _ _ (by omega),okS _ _ (by omega),zbb (by simp only at hi; omega),zj4 hi',List.map_append]
    have hb:decide ((((l.take i).map fun w=>bs (txI w)).length+1)*16≤zT)=true:=by simp only at hi; simp only [decide_eq_true_eq,List.length_map,List.length_take]; omega
    generalize ((l.take i).map fun w=>bs (txI w))=out at hb ⊢
    have hb':decide ((out.length+(0+1))*16≤zT)=true:=hb
    simp only [hb,hb',cond_true,List.map_cons,List.map_nil,txI,List.append_assoc])
   (fun H K D=>by
    show (zeO gT l l.length l.length (⟨4,⟨0,0⟩,[],f,l,o,b⟩:Atom) ((l.take l.length).map fun w=>bs (txI w))).ev H K D=_
    unfold zeO
    simp only [Wy.ev_i,Wy.ev_k,tT,Nat.lt_irrefl,List.take_length]) (l.length+(Int.ofNat l.length).toNat +Int.toNat (0:Int)+([]:List (List Term)).length+l.length+(0:Nat)+(1:Nat)) (by omega)
  rw [show allN (fun _=>true) l.length 0=true from zd1.2 fun _ _ _=>rfl] at this
  have e:zph gT (l.length+(Int.ofNat l.length).toNat +Int.toNat (0:Int)+([]:List (List Term)).length+l.length+(0:Nat)+(1:Nat)) l (Int.ofNat l.length) (0:Int) (⟨4,⟨0,0⟩,[],f,l,o,b⟩:Atom) []=(true,((⟨4,⟨0,0⟩,[],f,l,o,b⟩:Atom),(l.map txI).map bs)):=by rw [List.map_map]; exact this
  simp only at hi
  have hlen:(zdR (l.map txI) [59,32]).length≤5000000000000:=by
   refine Nat.le_trans (zFO (B:=4200001000) (l.map txI) [59,32] fun y hy=> ?_) (by
    rw [List.length_map]; have:=Nat.mul_le_mul hi (Nat.le_refl 4200001000); omega)
   obtain ⟨w,hw,rfl⟩:=List.mem_map.1 hy
   have h1:=(hg _ (.inr ⟨w,hw,rfl⟩)).2
   have h2:=zCu (hit w hw).1
   simp only [txI,List.length_append,List.length_cons,List.length_nil]; omega
  have l3:=zLN f
  have l4:=zMq o
  have l5:=zCu hb
  rw [zzW]
  simp only [zcD,show ¬ (4:Int)=0 by decide,show ¬ (4:Int)=1 by decide,show ¬ (4:Int)=2 by decide,show ¬ (4:Int)=3 by decide,if_false]
  rw [show ByteArray.mk #[(116:UInt8),(101:UInt8),(115:UInt8),(116:UInt8),(91:UInt8)]=bs [116,101,115,116,91] from rfl,show ByteArray.mk #[(123:UInt8)]=bs [123] from rfl,show ByteArray.mk #[(125:UInt8),(32:UInt8)]=bs [125,32] from rfl,show ByteArray.mk #[(59:UInt8),(32:UInt8)]=bs [59,32] from rfl,show ByteArray.mk #[(32:UInt8)]=bs [32] from rfl,show ByteArray.mk #[(93:UInt8)]=bs [93] from rfl]
  simp only [Wy.fin_i,show ((4:Int)==0)=false from rfl,show ((4:Int)==1)=false from rfl,show ((4:Int)==2)=false from rfl,show ((4:Int)==3)=false from rfl,cond_false]
  unfold strings_Join
  obtain ⟨fb,ft⟩:=zP2 f0 f3
  obtain ⟨ob,ot⟩:=zPW o5 o10
  rw [e,zFZ]
  simp only [Wy.fin_i,Wy.fin_k,Wy.fin_bn,fb,ft,ob,ot,zGQ _ _ (show (l.map txI).length≤140737488355328 by rw [List.length_map]; omega) (show (zdR (l.map txI) [59,32]).length≤140737488355328 by omega),zJ6 hb hwb,cond_true,zu3,zoC,List.length_append,List.length_cons,List.length_nil]
  rw [okS _ _ (by omega),okS _ _ (by omega),okS _ _ (by omega),okS _ _ (by omega),okS _ _ (by omega),okS _ _ (by omega),okS _ _ (by omega),okS _ _ (by omega)]
  simp
end
theorem zKM:∀ n,
  (∀ m a,zbP m a=true→zid a→3*m≤n→zlz n a=(true,bs (txN a)))∧
  (∀ m x,zeF (zbP m) x=true→zjY x→x.Items.length≤1024→3*m+1≤n→zjN n x=(true,bs (txA x)))∧
  (∀ m (l:List Factor),l.length≤1000→(∀ f∈l,zeF (zbP m) f.Atom=true∧zjY f.Atom∧f.Atom.Items.length≤1024∧rng f.Exp)→3*m+2≤n→zfb n l=(true,bs (txL l)))
 | 0=>by
  refine ⟨?_, ?_, ?_⟩
  ·intro m a h _ hm; have:m=0:=by omega
   subst this; cases h
  all_goals (intros; omega)
 | n+1=>by
  obtain ⟨h1,h2,h3⟩:=zKM n
  refine ⟨?_, ?_, ?_⟩
  ·intro m a h hw hm
   cases m with
   | zero=>cases h
   | succ m=>
    have hl:=zzl (zBy h)
    have hlen:=(zF9 (m+1)).1 a h
    rw [zDQ]
    refine zQK _ a (by omega) (by omega) fun t ht=> ?_
    obtain ⟨⟨c1,c2⟩,hok⟩:=zqW h ht
    obtain ⟨q1,q2⟩:=hl.2.2.2 t ht
    have hwt:=zpN (zvA (zuC hw t ht)).2.1
    refine ⟨h3 m t.Factors (by omega) (fun f hf=> ?_) (by omega), ?_,by constructor <;>omega⟩
    ·obtain ⟨⟨e1,_⟩,hv⟩:=znE hok hf
     exact ⟨hv,(zrd (hwt f hf)).1,(q2 f hf).2,by have:=(q2 f hf).1; constructor <;>omega⟩
    ·refine Nat.le_trans (zKy fun f hf=>(zF9 m).2 _ (znE hok hf).2) ?_
     have hs:t.Factors.length+zbA t.Factors≤zJ a:=by
      clear hok q1 q2 hwt hw h hlen hl
      induction a with
      | nil=>cases ht
      | cons b r ih=>
       rw [zh1]
       rcases List.mem_cons.1 ht with rfl | ht
       ·omega
       ·have:=ih ht; omega
     omega
  ·intro m x h hw hi hm
   rw [zyx]
   have W:=zvk hw
   refine zQC _ x h hw hi fun a ha=> ?_
   have hv:zbP m a=true∧zid a:=by
    rcases ha with ha | ⟨w,hw',rfl⟩
    ·refine ⟨?_,(zl7 W.1.1 a ha).1⟩
     cases zeQ.1 h with
     | var r h=>cases ha
     | mon b c hb hc _ _ _=>
      simp only [List.mem_cons,List.not_mem_nil,or_false] at ha
      rcases ha with rfl | rfl
      ·exact hb
      ·exact hc
     | del b hb _ _ _=>rw [List.mem_singleton] at ha; subst ha; exact hb
     | abs b hb _ _=>rw [List.mem_singleton] at ha; subst ha; exact hb
     | tst f l o b hl hi hs hf=>cases ha
    ·refine ⟨?_,(zqb W.2.1.1 w hw').2.1⟩
     cases zeQ.1 h with
     | tst f l o b hl hi2 hs hf=>exact (hi2 w hw').1
     | _=>cases hw'
   refine ⟨h1 m a hv.1 hv.2 (by omega), ?_⟩
   have q1:=(zF9 m).1 a hv.1
   have q2:=(zfE hv.1).2.1
   omega
  ·intro m l hl h hm
   rw [zvT]
   refine zQw _ l hl fun f hf=> ?_
   obtain ⟨q1,q2,q3,q4⟩:=h f hf
   refine ⟨h2 m f.Atom q1 q2 q3 (by omega), ?_,q4⟩
   have q5:=(zF9 m).2 f.Atom q1
   have q6:=zGC q1 q3
   omega
def hd (S:List UInt8) (u:List UInt8):Prop:=∀ c,u.head? =some c→c∈S
theorem zmn {S:List UInt8} {c:UInt8} {u:List UInt8} (h:c∈S):hd S (c::u):=fun d hd=>by
 simp only [List.head?_cons,Option.some.injEq] at hd; subst hd; exact h
theorem hd.mono {S T:List UInt8} {u:List UInt8} (h:hd S u) (hs:∀ c∈S,c∈T):hd T u:=fun c hc=>hs c (h c hc)
theorem hd.noDig {S:List UInt8} {u:List UInt8} (h:hd S u) (hs:∀ c∈S,isDg c=false):noDig u:=fun c hc=>hs c (h c hc)
theorem hd.ne {S:List UInt8} {u:List UInt8} (h:hd S u) {c:UInt8} (hs:c∉S):u.head? ≠some c:=fun e=>hs (h c e)
theorem hd.cons_ne {S:List UInt8} {u:List UInt8} {c:UInt8} (h:hd S (c::u)) (hs:c∉S):False:=hs (h c rfl)
theorem zBK {α:Type} (tx:α→List UInt8) (S0:List UInt8) (s0:UInt8) (sr:List UInt8) (P:α→Prop) (hS:s0∉S0) (hR:∀ x y,P x→P y→∀ u v,hd (s0::S0) u→hd (s0::S0) v→tx x++u=tx y++v→x=y∧u=v):
  ∀ l l':List α,l≠[]→l'≠[]→(∀ x∈l,P x)→(∀ x∈l',P x)→∀ u v,hd S0 u→hd S0 v→zdR (l.map tx) (s0::sr)++u=zdR (l'.map tx) (s0::sr)++v→l=l'∧u=v
 | [],_,h,_,_,_,_,_,_,_,_=>absurd rfl h
 | _::_,[],_,h,_,_,_,_,_,_,_=>absurd rfl h
 | [x],[y],_,_,hx,hy,u,v,hu,hv,h=>by
  have mono:∀ c∈S0,c∈s0::S0:=fun c hc=>List.mem_cons_of_mem _ hc
  obtain ⟨h1,h2⟩:=hR x y (hx x (by simp)) (hy y (by simp)) u v (hu.mono mono) (hv.mono mono) h
  exact ⟨by rw [h1],h2⟩
 | [x],y::y'::r',_,_,hx,hy,u,v,hu,hv,h=>by
  have mono:∀ c∈S0,c∈s0::S0:=fun c hc=>List.mem_cons_of_mem _ hc
  simp only [List.map,zdR,List.append_assoc] at h
  obtain ⟨h1,h2⟩:=hR x y (hx x (by simp)) (hy y (by simp)) u _ (hu.mono mono) (zmn (by simp)) h
  rw [h2] at hu
  exact (hu.cons_ne hS).elim
 | x::x'::r,[y],_,_,hx,hy,u,v,hu,hv,h=>by
  have mono:∀ c∈S0,c∈s0::S0:=fun c hc=>List.mem_cons_of_mem _ hc
  simp only [List.map,zdR,List.append_assoc] at h
  obtain ⟨h1,h2⟩:=hR x y (hx x (by simp)) (hy y (by simp)) _ v (zmn (by simp)) (hv.mono mono) h
  rw [← h2] at hv
  exact (hv.cons_ne hS).elim
 | x::x'::r,y::y'::r',_,_,hx,hy,u,v,hu,hv,h=>by
  have h:zdR (((x::x'::r)).map tx) (s0::sr)++u=zdR (((y::y'::r')).map tx) (s0::sr)++v:=h
  simp only [List.map,zdR,List.append_assoc] at h
  obtain ⟨h1,h2⟩:=hR x y (hx x (by simp)) (hy y (by simp)) _ _ (zmn (by simp)) (zmn (by simp)) h
  have h3:=(List.append_right_inj sr).1 (List.cons.inj h2).2
  obtain ⟨h4,h5⟩:=zBK tx S0 s0 sr P hS hR (x'::r) (y'::r') (by simp) (by simp) (fun z hz=>hx z (List.mem_cons_of_mem _ hz)) (fun z hz=>hy z (List.mem_cons_of_mem _ hz)) u v hu hv h3
  exact ⟨by rw [h1,h4],h5⟩
theorem zJW {t:ByteArray} (h:t.size=0):t=ByteArray.mk #[]:=zxJ (by
 have:t.data.toList.length=0:=by rw [Array.length_toList]; exact h
 rw [List.length_eq_zero_iff.1 this])
theorem zKR {x y:Value} (hx:valV x=true) (hy:valV y=true) (rx:rng x.Int) (ry:rng y.Int) {u v:List UInt8} (hu:hd [58,93] u) (hv:hd [58,93] v) (h:txV x++u=txV y++v):x=y∧u=v:=by
 have d1:∀ c∈([58,93]:List UInt8),isDg c=false:=by decide
 obtain ⟨cx,sx,ex,dx⟩:=zIY rx.1 rx.2
 obtain ⟨cy,sy,ey,dy⟩:=zIY ry.1 ry.2
 have nd:∀ c:UInt8,c=45∨isDg c=true→c≠39∧c≠84∧c≠70:=fun c hc=>by
  refine ⟨?_, ?_, ?_⟩ <;>(intro e; subst e; revert hc; decide)
 obtain ⟨kx,ix,tx⟩:=x
 obtain ⟨ky,iy,ty⟩:=y
 simp only [valV,Bool.or_eq_true,Bool.and_eq_true,beq_iff_eq,decide_eq_true_eq] at hx hy
 simp only at rx ry ex ey
 rcases hx with (⟨rfl,hx⟩ | ⟨⟨rfl,rfl⟩,hx⟩) | ⟨⟨rfl,hx⟩,hx2⟩
 ·have:=zJW hx; subst this
  rcases hy with (⟨rfl,hy⟩ | ⟨⟨rfl,rfl⟩,hy⟩) | ⟨⟨rfl,hy⟩,hy2⟩
  ·have:=zJW hy; subst this
   simp only [txV,if_true] at h
   obtain ⟨h1,h2⟩:=zoZ rx ry (hu.noDig d1) (hv.noDig d1) h
   exact ⟨by rw [h1],h2⟩
  ·simp only [txV,if_true,show ¬ (1:Int)=0 by decide,if_false,ex,List.cons_append,List.cons.injEq] at h
   exact absurd h.1 (nd cx dx).1
  ·rcases hy2 with rfl | rfl
   ·simp only [txV,if_true,show ¬ (2:Int)=0 by decide,show ¬ (2:Int)=1 by decide,show ¬ (0:Int)=1 by decide,if_false,ex,List.cons_append,List.cons.injEq] at h
    exact absurd h.1 (nd cx dx).2.2
   ·simp only [txV,if_true,show ¬ (2:Int)=0 by decide,show ¬ (2:Int)=1 by decide,if_false,ex,List.cons_append,List.cons.injEq] at h
    exact absurd h.1 (nd cx dx).2.1
 ·rcases hy with (⟨rfl,hy⟩ | ⟨⟨rfl,rfl⟩,hy⟩) | ⟨⟨rfl,hy⟩,hy2⟩
  ·simp only [txV,if_true,show ¬ (1:Int)=0 by decide,if_false,ey,List.cons_append,List.cons.injEq] at h
   exact absurd h.1.symm (nd cy dy).1
  ·simp only [txV,if_true,show ¬ (1:Int)=0 by decide,if_false,List.cons_append,List.cons.injEq,true_and,List.append_assoc,List.nil_append] at h
   obtain ⟨h1,h2⟩:=zG0 _ _ u v (hu.ne (by decide)) (hv.ne (by decide)) h
   exact ⟨by rw [zxJ h1],h2⟩
  ·rcases hy2 with rfl | rfl <;>simp [txV] at h
 ·have:=zJW hx; subst this
  rcases hy with (⟨rfl,hy⟩ | ⟨⟨rfl,rfl⟩,hy⟩) | ⟨⟨rfl,hy⟩,hy2⟩
  ·rcases hx2 with rfl | rfl
   ·simp only [txV,if_true,show ¬ (2:Int)=0 by decide,show ¬ (2:Int)=1 by decide,show ¬ (0:Int)=1 by decide,if_false,ey,List.cons_append,List.cons.injEq] at h
    exact absurd h.1.symm (nd cy dy).2.2
   ·simp only [txV,if_true,show ¬ (2:Int)=0 by decide,show ¬ (2:Int)=1 by decide,if_false,ey,List.cons_append,List.cons.injEq] at h
    exact absurd h.1.symm (nd cy dy).2.1
  ·rcases hx2 with rfl | rfl <;>simp [txV] at h
  ·have:=zJW hy; subst this
   rcases hx2 with rfl | rfl <;>rcases hy2 with rfl | rfl <;>simp [txV] at h
   ·exact ⟨rfl,h⟩
   ·exact ⟨rfl,h⟩
theorem zON {f g:Int} (hf:0≤f∧f≤3) (hg:0≤g∧g≤3) {u v:List UInt8} (h:fnT f++123::u=fnT g++123::v):f=g∧u=v:=by
 have c1:f=0∨f=1∨f=2∨f=3:=by omega
 have c2:g=0∨g=1∨g=2∨g=3:=by omega
 rcases c1 with rfl | rfl | rfl | rfl <;>rcases c2 with rfl | rfl | rfl | rfl <;>simp [fnT] at h <;>exact ⟨rfl,h⟩
theorem zOq {f g:Int} (hf:5≤f∧f≤10) (hg:5≤g∧g≤10) {u v:List UInt8} (h:opT f++32::u=opT g++32::v):f=g∧u=v:=by
 have c1:f=5∨f=6∨f=7∨f=8∨f=9∨f=10:=by omega
 have c2:g=5∨g=6∨g=7∨g=8∨g=9∨g=10:=by omega
 rcases c1 with rfl | rfl | rfl | rfl | rfl | rfl <;>rcases c2 with rfl | rfl | rfl | rfl | rfl | rfl <;>simp [opT] at h <;>exact ⟨rfl,h⟩
def SN:List UInt8:=[93,44,59,125]
def ST:List UInt8:=32::SN
def SF:List UInt8:=42::ST
def SA:List UInt8:=94::SF
theorem zHj:∀ c∈SA,isDg c=false:=by decide
theorem zRt:∀ c∈ST,c∈SA:=by decide
theorem zHN:∀ c∈SF,c∈SA:=by decide
def RdN (V:List Term→Bool):Prop:=∀ a b,V a=true→V b=true→zid a→zid b→∀ u v,hd SN u→hd SN v→txN a++u=txN b++v→a=b∧u=v
def RdA (V:List Term→Bool):Prop:=∀ x y,zeF V x=true→zeF V y=true→zjY x→zjY y→∀ u v,hd SA u→hd SA v→txA x++u=txA y++v→x=y∧u=v
theorem zOO {V:List Term→Bool} {x:Atom} (h:zeF V x=true):∃ c r,txA x=c::r∧isDg c=false:=by
 cases zeQ.1 h with
 | var r h=>rw [txA]; exact ⟨116,_,rfl,rfl⟩
 | mon a b _ _ _ _ _=>rw [txA]; exact ⟨109,_,rfl,rfl⟩
 | del a _ _ _ _=>rw [txA]; exact ⟨100,_,rfl,rfl⟩
 | abs a _ _ _=>rw [txA]; exact ⟨97,_,rfl,rfl⟩
 | tst f l o b _ _ _ _=>rw [txA]; exact ⟨116,_,rfl,rfl⟩
theorem zN5 {V:List Term→Bool} (hV:RdN V):RdA V:=by
 intro x y hx hy wx wy u v hu hv h
 have Wx:=zvk wx
 have Wy:=zvk wy
 have k0:¬ (1:Int)=0:=by decide
 have c44:∀ z,hd SN (44::z):=fun z=>zmn (by decide)
 have c93:∀ z,hd SN (93::z):=fun z=>zmn (by decide)
 have tE:∀ (r:RowID),zzp r=true→rng r.Table→∀ w z,zha r.Table++w≠101::z:=fun r hr hg w z e=>by
  simp only [zzp,Bool.and_eq_true,decide_eq_true_eq] at hr
  obtain ⟨d1,d2⟩:=zNZ (show 0≤r.Table by omega) hg.2
  cases hl:zha r.Table with
  | nil=>exact d2 hl
  | cons c s=>
   rw [hl] at e d1
   simp only [List.cons_append,List.cons.injEq] at e
   rw [List.all_cons,e.1] at d1
   revert d1; simp [isDg]
 cases zeQ.1 hx with
 | var r hr=>
  have rr:=Wx.2.2.2.2.1
  simp only at rr
  cases zeQ.1 hy with
  | var r' hr'=>
   have rr':=Wy.2.2.2.2.1
   simp only at rr'
   rw [txA,txA] at h
   simp only [zcD,if_true,txR,List.cons_append,List.cons.injEq,true_and,List.append_assoc] at h
   obtain ⟨h1,h2⟩:=zoZ (zj5 rr.1) (zj5 rr'.1) (fun c hc=>by simp only [List.head?_cons,Option.some.injEq] at hc; subst hc; rfl) (fun c hc=>by simp only [List.head?_cons,Option.some.injEq] at hc; subst hc; rfl) h
   simp only [List.cons.injEq,true_and] at h2
   obtain ⟨h3,h4⟩:=zoZ (zj5 rr.2) (zj5 rr'.2) (hu.noDig zHj) (hv.noDig zHj) h2
   obtain ⟨t,s⟩:=r; obtain ⟨t',s'⟩:=r'
   simp only at h1 h3
   exact ⟨by rw [h1,h3],h4⟩
  | tst f l o b _ _ _ _=>
   rw [txA,txA] at h
   simp only [zcD,if_true,txR,show ¬ (4:Int)=0 by decide,show ¬ (4:Int)=1 by decide,show ¬ (4:Int)=2 by decide,show ¬ (4:Int)=3 by decide,if_false,List.cons_append,List.cons.injEq,true_and,List.append_assoc] at h
   exact absurd h (tE r hr (zj5 rr.1) _ _)
  | mon a b _ _ _ _ _=>rw [txA,txA] at h; simp [zcD,txR] at h
  | del a _ _ _ _=>rw [txA,txA] at h; simp [zcD,txR] at h
  | abs a _ _ _=>rw [txA,txA] at h; simp [zcD,txR] at h
 | mon a b ha hb _ _ _=>
  cases zeQ.1 hy with
  | mon a' b' ha' hb' _ _ _=>
   rw [txA,txA,zj1,zj1] at h
   simp only [zcD,if_true,k0,if_false,List.map,List.getD_cons_zero,List.getD_cons_succ,List.cons_append,List.cons.injEq,true_and,List.append_assoc,List.nil_append] at h
   have wa:=fun z hz=>(zl7 Wx.1.1 z hz).1
   have wb:=fun z hz=>(zl7 Wy.1.1 z hz).1
   obtain ⟨h1,h2⟩:=hV a a' ha ha' (wa a (by simp)) (wb a' (by simp)) _ _ (c44 _) (c44 _) h
   simp only [List.cons.injEq,true_and] at h2
   obtain ⟨h3,h4⟩:=hV b b' hb hb' (wa b (by simp)) (wb b' (by simp)) _ _ (c93 _) (c93 _) h2
   simp only [List.cons.injEq,true_and] at h4
   exact ⟨by rw [h1,h3],h4⟩
  | var r h=>rw [txA,txA] at h; simp [zcD,txR] at h
  | del a _ _ _ _=>rw [txA,txA] at h; simp [zcD,txR] at h
  | abs a _ _ _=>rw [txA,txA] at h; simp [zcD,txR] at h
  | tst f l o b _ _ _ _=>rw [txA,txA] at h; simp [zcD,txR] at h
 | del a ha _ _ _=>
  cases zeQ.1 hy with
  | del a' ha' _ _ _=>
   rw [txA,txA,zj1,zj1] at h
   simp only [zcD,if_true,show ¬ (2:Int)=0 by decide,show ¬ (2:Int)=1 by decide,if_false,List.map,List.getD_cons_zero,List.cons_append,List.cons.injEq,true_and,List.append_assoc,List.nil_append] at h
   have wa:=fun z hz=>(zl7 Wx.1.1 z hz).1
   have wb:=fun z hz=>(zl7 Wy.1.1 z hz).1
   obtain ⟨h1,h2⟩:=hV a a' ha ha' (wa a (by simp)) (wb a' (by simp)) _ _ (c93 _) (c93 _) h
   simp only [List.cons.injEq,true_and] at h2
   exact ⟨by rw [h1],h2⟩
  | var r h=>rw [txA,txA] at h; simp [zcD,txR] at h
  | mon a b _ _ _ _ _=>rw [txA,txA] at h; simp [zcD,txR] at h
  | abs a _ _ _=>rw [txA,txA] at h; simp [zcD,txR] at h
  | tst f l o b _ _ _ _=>rw [txA,txA] at h; simp [zcD,txR] at h
 | abs a ha _ _=>
  cases zeQ.1 hy with
  | abs a' ha' _ _=>
   rw [txA,txA,zj1,zj1] at h
   simp only [zcD,if_true,show ¬ (3:Int)=0 by decide,show ¬ (3:Int)=1 by decide,show ¬ (3:Int)=2 by decide,if_false,List.map,List.getD_cons_zero,List.cons_append,List.cons.injEq,true_and,List.append_assoc,List.nil_append] at h
   have wa:=fun z hz=>(zl7 Wx.1.1 z hz).1
   have wb:=fun z hz=>(zl7 Wy.1.1 z hz).1
   obtain ⟨h1,h2⟩:=hV a a' ha ha' (wa a (by simp)) (wb a' (by simp)) _ _ (c93 _) (c93 _) h
   simp only [List.cons.injEq,true_and] at h2
   exact ⟨by rw [h1],h2⟩
  | var r h=>rw [txA,txA] at h; simp [zcD,txR] at h
  | mon a b _ _ _ _ _=>rw [txA,txA] at h; simp [zcD,txR] at h
  | del a _ _ _ _=>rw [txA,txA] at h; simp [zcD,txR] at h
  | tst f l o b _ _ _ _=>rw [txA,txA] at h; simp [zcD,txR] at h
 | tst f l o b hl hi hs hf=>
  cases zeQ.1 hy with
  | tst f' l' o' b' hl' hi' hs' hf'=>
   obtain ⟨⟨f0,f3,o5,o10⟩,hb,hit⟩:=zr8 hf
   obtain ⟨⟨f0',f3',o5',o10'⟩,hb',hit'⟩:=zr8 hf'
   have wl:=zqb Wx.2.1.1
   have wl':=zqb Wy.2.1.1
   rw [txA,txA,zzW,zzW] at h
   simp only [zcD,show ¬ (4:Int)=0 by decide,show ¬ (4:Int)=1 by decide,show ¬ (4:Int)=2 by decide,show ¬ (4:Int)=3 by decide,if_false,List.cons_append,List.cons.injEq,true_and,List.append_assoc,List.nil_append] at h
   obtain ⟨h1,h2⟩:=zON ⟨f0,f3⟩ ⟨f0',f3'⟩ h
   obtain ⟨h3,h4⟩:=zBK txI [125] 59 [32] (fun w=>(V w.Ann=true∧zid w.Ann)∧valV w.Value=true∧rng w.Value.Int) (by decide) (fun x y px py u v hu hv e=>by
    simp only [txI,List.append_assoc,List.cons_append,List.nil_append] at e
    obtain ⟨e1,e2⟩:=zKR px.2.1 py.2.1 px.2.2 py.2.2 (zmn (by decide)) (zmn (by decide)) e
    simp only [List.cons.injEq,true_and] at e2
    obtain ⟨e3,e4⟩:=hV _ _ px.1.1 py.1.1 px.1.2 py.1.2 u v (hu.mono (by decide)) (hv.mono (by decide)) e2
    obtain ⟨vx,ax⟩:=x; obtain ⟨vy,ay⟩:=y
    simp only at e1 e3
    exact ⟨by rw [e1,e3],e4⟩) l l' hl hl' (fun w hw=>⟨⟨(hi w hw).1,(wl w hw).2.1⟩,(hit w hw).1,zj5 (wl w hw).1.2.1⟩) (fun w hw=>⟨⟨(hi' w hw).1,(wl' w hw).2.1⟩,(hit' w hw).1,zj5 (wl' w hw).1.2.1⟩) _ _ (zmn (by decide)) (zmn (by decide)) h2
   simp only [List.cons.injEq,true_and] at h4
   obtain ⟨h5,h6⟩:=zOq ⟨o5,o10⟩ ⟨o5',o10'⟩ h4
   obtain ⟨h7,h8⟩:=zKR hb hb' (zj5 Wx.2.2.1.2.1) (zj5 Wy.2.2.1.2.1) (zmn (by decide)) (zmn (by decide)) h6
   simp only [List.cons.injEq,true_and] at h8
   exact ⟨by rw [h1,h3,h5,h7],h8⟩
  | var r hr=>
   have rr:=Wy.2.2.2.2.1
   simp only at rr
   rw [txA,txA] at h
   simp only [zcD,if_true,txR,show ¬ (4:Int)=0 by decide,show ¬ (4:Int)=1 by decide,show ¬ (4:Int)=2 by decide,show ¬ (4:Int)=3 by decide,if_false,List.cons_append,List.cons.injEq,true_and,List.append_assoc] at h
   exact absurd h.symm (tE r hr (zj5 rr.1) _ _)
  | mon a b _ _ _ _ _=>rw [txA,txA] at h; simp [zcD,txR] at h
  | del a _ _ _ _=>rw [txA,txA] at h; simp [zcD,txR] at h
  | abs a _ _ _=>rw [txA,txA] at h; simp [zcD,txR] at h
def gF (V:List Term→Bool) (f:Factor):Prop:=zeF V f.Atom=true∧zjY f.Atom∧rng f.Exp
theorem zQ6 {V:List Term→Bool} (hA:RdA V) {f g:Factor} (hf:gF V f) (hg:gF V g) {u v:List UInt8} (hu:hd SF u) (hv:hd SF v) (h:txF f++u=txF g++v):f=g∧u=v:=by
 obtain ⟨x,e⟩:=f; obtain ⟨y,e'⟩:=g
 obtain ⟨a1,a2,a3⟩:=hf; obtain ⟨b1,b2,b3⟩:=hg
 simp only at a1 a2 a3 b1 b2 b3
 have c94:∀ z,hd SA (94::z):=fun z=>zmn (by decide)
 have n94:(94:UInt8)∉SF:=by decide
 have dg:∀ c∈SF,isDg c=false:=fun c hc=>zHj c (zHN c hc)
 unfold txF zBF at h
 simp only at h
 by_cases h1:e=1
 ·by_cases h2:e'=1
  ·rw [if_pos h1,if_pos h2] at h
   obtain ⟨q1,q2⟩:=hA x y a1 b1 a2 b2 u v (hu.mono zHN) (hv.mono zHN) h
   exact ⟨by rw [q1,h1,h2],q2⟩
  ·rw [if_pos h1,if_neg h2,List.append_assoc] at h
   obtain ⟨q1,q2⟩:=hA x y a1 b1 a2 b2 u _ (hu.mono zHN) (c94 _) h
   rw [q2] at hu
   exact (hu.cons_ne n94).elim
 ·by_cases h2:e'=1
  ·rw [if_neg h1,if_pos h2,List.append_assoc] at h
   obtain ⟨q1,q2⟩:=hA x y a1 b1 a2 b2 _ v (c94 _) (hv.mono zHN) h
   rw [← q2] at hv
   exact (hv.cons_ne n94).elim
  ·rw [if_neg h1,if_neg h2,List.append_assoc,List.append_assoc] at h
   obtain ⟨q1,q2⟩:=hA x y a1 b1 a2 b2 _ _ (c94 _) (c94 _) h
   simp only [List.cons_append,List.cons.injEq,true_and] at q2
   obtain ⟨q3,q4⟩:=zoZ a3 b3 (hu.noDig dg) (hv.noDig dg) q2
   exact ⟨by rw [q1,q3],q4⟩
theorem zIx {V:List Term→Bool} (hA:RdA V) {l l':List Factor} (hl:l≠[]) (hl':l'≠[]) (h1:∀ f∈l,gF V f) (h2:∀ f∈l',gF V f) {u v:List UInt8} (hu:hd ST u) (hv:hd ST v) (h:txL l++u=txL l'++v):l=l'∧u=v:=by
 unfold txL at h
 rw [zqV,zqV] at h
 exact zBK txF ST 42 [] (gF V) (by decide) (fun x y px py u v hu hv e=>zQ6 hA px py hu hv e) l l' hl hl' h1 h2 u v hu hv h
theorem zwK {V:List Term→Bool} {l:List Factor} (hl:l≠[]) (h:∀ f∈l,gF V f):∃ c r,txL l=c::r∧isDg c=false:=by
 cases l with
 | nil=>exact absurd rfl hl
 | cons f r=>
  obtain ⟨c,s,e,hc⟩:=zOO (h f (by simp)).1
  have:∃ s',txF f=c::s':=by
   unfold txF zBF
   split
   ·exact ⟨s,e⟩
   ·exact ⟨_,by rw [e]; rfl⟩
  obtain ⟨s',e'⟩:=this
  unfold txL
  rw [zqV]
  cases r with
  | nil=>exact ⟨c,s',by simp only [List.map,zdR]; exact e',hc⟩
  | cons g r=>exact ⟨c,_,by simp only [List.map,zdR]; rw [e']; rfl,hc⟩
def gT (V:List Term→Bool) (t:Term):Prop:=(1≤t.Coeff∧t.Coeff≤9223372036854775807)∧∀ f∈t.Factors,gF V f
theorem zIo {n:Int} (h:1≤n) (h2:n≤9223372036854775807):∃ c r,zha n=c::r∧isDg c=true∧c≠48:=by
 have e:zha n=Lib.decDigits n.toNat:=by rw [zG6 (by omega) h2,Lib.itoa,if_neg (by omega)]
 obtain ⟨a1,a2,a3,a4⟩:=zFn n.toNat n.toNat (Nat.le_refl _)
 rw [e]
 cases hl:Lib.decDigits n.toNat with
 | nil=>exact absurd hl a3
 | cons c r=>
  rw [hl] at a1 a4
  rw [List.all_cons,Bool.and_eq_true] at a1
  exact ⟨c,r,rfl,a1.1,fun e=>a4 (by omega) (by rw [e]; rfl)⟩
theorem zKp {l:List Factor}:txFs l=[]↔l=[]:=by rw [zqV,List.map_eq_nil_iff]
theorem zLg (t:Term):txT t=if t.Factors=[] then zha t.Coeff else if t.Coeff=1 then txL t.Factors else zha t.Coeff++42::txL t.Factors:=by
 unfold txT zFo
 by_cases h:t.Factors=[]
 ·rw [if_pos (zKp.2 h),if_pos h]
 ·rw [if_neg (fun e=>h (zKp.1 e)),if_neg h]; rfl
theorem zQy {V:List Term→Bool} (hA:RdA V) {s t:Term} (hs:gT V s) (ht:gT V t) {u v:List UInt8} (hu:hd ST u) (hv:hd ST v) (h:txT s++u=txT t++v):s=t∧u=v:=by
 obtain ⟨c,l⟩:=s; obtain ⟨c',l'⟩:=t
 obtain ⟨⟨c1,c2⟩,h1⟩:=hs; obtain ⟨⟨c1',c2'⟩,h2⟩:=ht
 simp only at c1 c2 h1 c1' c2' h2
 have dg:∀ c∈ST,isDg c=false:=fun c hc=>zHj c (zRt c hc)
 have n42:(42:UInt8)∉ST:=by decide
 have d42:∀ z,noDig (42::z):=fun z c hc=>by simp only [List.head?_cons,Option.some.injEq] at hc; subst hc; rfl
 have rc:rng c:=⟨by omega,c2⟩
 have rc':rng c':=⟨by omega,c2'⟩
 obtain ⟨d,r,e,hd,_⟩:=zIo c1 c2
 obtain ⟨d',r',e',hd',_⟩:=zIo c1' c2'
 rw [zLg,zLg] at h
 simp only at h
 by_cases l0:l=[]
 ·rw [if_pos l0] at h
  by_cases l0':l'=[]
  ·rw [if_pos l0'] at h
   obtain ⟨q1,q2⟩:=zoZ rc rc' (hu.noDig dg) (hv.noDig dg) h
   exact ⟨by rw [q1,l0,l0'],q2⟩
  ·rw [if_neg l0'] at h
   by_cases k':c'=1
   ·rw [if_pos k'] at h
    obtain ⟨d2,r2,e2,hd2⟩:=zwK l0' h2
    rw [e,e2] at h
    simp only [List.cons_append,List.cons.injEq] at h
    rw [h.1,hd2] at hd; cases hd
   ·rw [if_neg k',List.append_assoc] at h
    obtain ⟨q1,q2⟩:=zoZ rc rc' (hu.noDig dg) (d42 _) h
    rw [q2] at hu
    exact (hu.cons_ne n42).elim
 ·rw [if_neg l0] at h
  by_cases k:c=1
  ·rw [if_pos k] at h
   obtain ⟨d2,r2,e2,hd2⟩:=zwK l0 h1
   by_cases l0':l'=[]
   ·rw [if_pos l0',e2,e'] at h
    simp only [List.cons_append,List.cons.injEq] at h
    rw [← h.1,hd2] at hd'; cases hd'
   ·rw [if_neg l0'] at h
    by_cases k':c'=1
    ·rw [if_pos k'] at h
     obtain ⟨q1,q2⟩:=zIx hA l0 l0' h1 h2 hu hv h
     exact ⟨by rw [q1,k,k'],q2⟩
    ·rw [if_neg k',e2,e'] at h
     simp only [List.cons_append,List.cons.injEq] at h
     rw [← h.1,hd2] at hd'; cases hd'
  ·rw [if_neg k,List.append_assoc] at h
   by_cases l0':l'=[]
   ·rw [if_pos l0'] at h
    obtain ⟨q1,q2⟩:=zoZ rc rc' (d42 _) (hv.noDig dg) h
    rw [← q2] at hv
    exact (hv.cons_ne n42).elim
   ·rw [if_neg l0'] at h
    by_cases k':c'=1
    ·rw [if_pos k'] at h
     obtain ⟨d2,r2,e2,hd2⟩:=zwK l0' h2
     rw [e,e2] at h
     simp only [List.cons_append,List.cons.injEq] at h
     rw [h.1,hd2] at hd; cases hd
    ·rw [if_neg k',List.append_assoc] at h
     obtain ⟨q1,q2⟩:=zoZ rc rc' (d42 _) (d42 _) h
     simp only [List.cons_append,List.cons.injEq,true_and] at q2
     obtain ⟨q3,q4⟩:=zIx hA l0 l0' h1 h2 hu hv q2
     exact ⟨by rw [q1,q3],q4⟩
theorem zOB {V:List Term→Bool} {t:Term} (ht:gT V t):∃ c r,txT t=c::r∧c≠48:=by
 obtain ⟨⟨c1,c2⟩,h1⟩:=ht
 obtain ⟨d,r,e,hd,h48⟩:=zIo c1 c2
 rw [zLg]
 by_cases l0:t.Factors=[]
 ·rw [if_pos l0]; exact ⟨d,r,e,h48⟩
 ·rw [if_neg l0]
  split
  ·obtain ⟨d2,r2,e2,hd2⟩:=zwK l0 h1
   exact ⟨d2,r2,e2,fun e=>by rw [e] at hd2; revert hd2; decide⟩
  ·exact ⟨d,_,by rw [e]; rfl,h48⟩
theorem zQB {V:List Term→Bool} (hA:RdA V) {a b:List Term} (ha:∀ t∈a,gT V t) (hb:∀ t∈b,gT V t) {u v:List UInt8} (hu:hd SN u) (hv:hd SN v) (h:txN a++u=txN b++v):a=b∧u=v:=by
 have en:∀ z:List Term,z≠[]→txN z=zdR (z.map txT) [32,43,32]:=fun z hz=>by
  unfold txN zDc; rw [zDx,if_neg (by simpa using hz)]
 have e0:txN []=[48]:=by unfold txN zDc; rw [txTs,if_pos rfl]
 have h48:∀ z:List Term,z≠[]→(∀ t∈z,gT V t)→∃ c r,txN z=c::r∧c≠48:=fun z hz hg=>by
  rw [en z hz]
  cases z with
  | nil=>exact absurd rfl hz
  | cons t r=>
   obtain ⟨c,s,e,hc⟩:=zOB (hg t (by simp))
   cases r with
   | nil=>exact ⟨c,s,by simp only [List.map,zdR]; exact e,hc⟩
   | cons t' r=>exact ⟨c,_,by simp only [List.map,zdR]; rw [e]; rfl,hc⟩
 by_cases a0:a=[]
 ·by_cases b0:b=[]
  ·rw [a0,b0] at h
   exact ⟨by rw [a0,b0],List.append_cancel_left h⟩
  ·obtain ⟨c,r,e,hc⟩:=h48 b b0 hb
   rw [a0,e0,e] at h
   simp only [List.cons_append,List.cons.injEq] at h
   exact absurd h.1.symm hc
 ·by_cases b0:b=[]
  ·obtain ⟨c,r,e,hc⟩:=h48 a a0 ha
   rw [b0,e0,e] at h
   simp only [List.cons_append,List.cons.injEq] at h
   exact absurd h.1 hc
  ·rw [en a a0,en b b0] at h
   exact zBK txT SN 32 [43,32] (gT V) (by decide) (fun x y px py u v hu hv e=>zQy hA px py hu hv e) a b a0 b0 ha hb u v hu hv h
theorem zOX:∀ m,RdN (zbP m)∧RdA (zbP m):=by
 intro m
 induction m with
 | zero=>
  have:RdN (zbP 0):=fun a b ha=>by cases ha
  exact ⟨this,zN5 this⟩
 | succ m ih=>
  have:RdN (zbP (m+1)):=fun a b ha hb wa wb u v hu hv h=>by
   have key:∀ z,zbP (m+1) z=true→zid z→∀ t∈z,gT (zbP m) t:=fun z hz wz t ht=>by
    obtain ⟨⟨c1,c2⟩,hok⟩:=zqW hz ht
    have hwt:=zpN (zvA (zuC wz t ht)).2.1
    exact ⟨⟨c1,by omega⟩,fun f hf=>⟨(znE hok hf).2,(zrd (hwt f hf)).1,zj5 (zrd (hwt f hf)).2⟩⟩
   exact zQB ih.2 (key a ha wa) (key b hb wb) hu hv h
  exact ⟨this,zN5 this⟩
theorem zPY {m:Nat} {l l':List Factor} (h1:∀ f∈l,gF (zbP m) f) (h2:∀ f∈l',gF (zbP m) f) (h:txL l=txL l'):l=l':=by
 have e0:txL []=[]:=by unfold txL; rw [txFs]; rfl
 by_cases l0:l=[]
 ·by_cases l0':l'=[]
  ·rw [l0,l0']
  ·obtain ⟨c,r,e,_⟩:=zwK l0' h2
   rw [l0,e0,e] at h; cases h
 ·by_cases l0':l'=[]
  ·obtain ⟨c,r,e,_⟩:=zwK l0 h1
   rw [l0',e0,e] at h; cases h
  ·exact (zIx (zOX m).2 l0 l0' h1 h2 (u:=[]) (v:=[]) (fun c hc=>by cases hc) (fun c hc=>by cases hc) (by rw [h])).1
def zsa (a b:Int):Int:=if 1152921504606846976<a+b then 1152921504606846976 else a+b
def cT (x y:Term):Int:=cmpL (zbo x.Factors) (zbo y.Factors)
theorem zFX {x y:Term} (h:cT x y=0):x.Factors=y.Factors:=zyu _ _ (zzN _ _ h)
theorem zzK {x y:Term} (h:x.Factors=y.Factors):cT x y=0:=by unfold cT; rw [h]; exact zE2 _
def putA (t:Term):List Term→List Term
 | []=>[t]
 | x::r=>if cT x t<0 then x::putA t r else if cT x t=0 then ⟨zsa x.Coeff t.Coeff,t.Factors⟩::r else t::x::r
def updA (t:Term):List Term→List Term
 | []=>[t]
 | x::r=>if x.Factors=t.Factors then ⟨zsa x.Coeff t.Coeff,x.Factors⟩::r else x::updA t r
abbrev Srs (l:List Term):Prop:=l.Pairwise fun x y=>cT x y<0
abbrev Dst (l:List Term):Prop:=l.Pairwise fun x y=>x.Factors≠y.Factors
theorem Srs.dst {l:List Term} (h:Srs l):Dst l:=h.imp fun {x y} hxy e=>by rw [zzK e] at hxy; omega
def SM (l:List Term) (t y:Term):Prop:=(y∈l∧y.Factors≠t.Factors)∨(y.Factors=t.Factors∧((∃ x∈l,x.Factors=t.Factors∧y.Coeff=zsa x.Coeff t.Coeff)∨((∀ x∈l,x.Factors≠t.Factors)∧y.Coeff=t.Coeff)))
theorem zLS {x y:Term} (h1:x.Coeff=y.Coeff) (h2:x.Factors=y.Factors):x=y:=by cases x; cases y; simp_all
theorem zAc {x y z:Term} (h1:cT x y<0) (h2:cT y z<0):cT x z<0:=zJS h1 h2
theorem zws (x y:Term):cT y x= - cT x y:=zyb _ _
theorem zHM {x t y:Term} {r:List Term} (hx:x.Factors≠t.Factors) (hr:∀ z∈r,x.Factors≠z.Factors):SM (x::r) t y↔y=x∨SM r t y:=by
 unfold SM
 constructor
 ·rintro (⟨h1,h2⟩ | ⟨h1,⟨z,hz,h2,h3⟩ | ⟨h2,h3⟩⟩)
  ·rcases List.mem_cons.1 h1 with rfl | h1
   ·exact .inl rfl
   ·exact .inr (.inl ⟨h1,h2⟩)
  ·rcases List.mem_cons.1 hz with rfl | hz
   ·exact absurd h2 hx
   ·exact .inr (.inr ⟨h1,.inl ⟨z,hz,h2,h3⟩⟩)
  ·exact .inr (.inr ⟨h1,.inr ⟨fun z hz=>h2 z (by simp [hz]),h3⟩⟩)
 ·rintro (rfl | ⟨h1,h2⟩ | ⟨h1,⟨z,hz,h2,h3⟩ | ⟨h2,h3⟩⟩)
  ·exact .inl ⟨by simp,hx⟩
  ·exact .inl ⟨by simp [h1],h2⟩
  ·exact .inr ⟨h1,.inl ⟨z,by simp [hz],h2,h3⟩⟩
  ·exact .inr ⟨h1,.inr ⟨fun z hz=>by
    rcases List.mem_cons.1 hz with rfl | hz
    ·exact hx
    ·exact h2 z hz,h3⟩⟩
theorem zIu {t y:Term} {l:List Term} (h:∀ z∈l,z.Factors≠t.Factors):SM l t y↔y=t∨y∈l:=by
 unfold SM
 constructor
 ·rintro (⟨h1,h2⟩ | ⟨h1,⟨z,hz,h2,h3⟩ | ⟨h2,h3⟩⟩)
  ·exact .inr h1
  ·exact absurd h2 (h z hz)
  ·exact .inl (zLS h3 h1)
 ·rintro (rfl | h1)
  ·exact .inr ⟨rfl,.inr ⟨h,rfl⟩⟩
  ·exact .inl ⟨h1,h y h1⟩
theorem zNW {x t y:Term} {r:List Term} (hx:x.Factors=t.Factors) (hr:∀ z∈r,z.Factors≠t.Factors):SM (x::r) t y↔y=⟨zsa x.Coeff t.Coeff,t.Factors⟩∨y∈r:=by
 unfold SM
 constructor
 ·rintro (⟨h1,h2⟩ | ⟨h1,⟨z,hz,h2,h3⟩ | ⟨h2,h3⟩⟩)
  ·rcases List.mem_cons.1 h1 with rfl | h1
   ·exact absurd hx h2
   ·exact .inr h1
  ·rcases List.mem_cons.1 hz with rfl | hz
   ·exact .inl (zLS h3 h1)
   ·exact absurd h2 (hr z hz)
  ·exact absurd hx (h2 x (by simp))
 ·rintro (rfl | h1)
  ·exact .inr ⟨rfl,.inl ⟨x,by simp,hx,rfl⟩⟩
  ·exact .inl ⟨by simp [h1],hr y h1⟩
theorem zF2 {t y:Term}:∀ {l:List Term},Srs l→(y∈putA t l↔SM l t y)
 | [],_=>by rw [zIu (by simp)]; simp [putA]
 | x::r,h=>by
  have hc:=List.pairwise_cons.1 h
  have hd:=List.pairwise_cons.1 h.dst
  unfold putA
  by_cases h1:cT x t<0
  ·rw [if_pos h1,List.mem_cons,zHM (fun e=>by rw [zzK e] at h1; omega) hd.1,zF2 hc.2]
  ·rw [if_neg h1]
   by_cases h2:cT x t=0
   ·rw [if_pos h2,List.mem_cons,zNW (zFX h2) fun z hz e=>by
     have:=hc.1 z hz; rw [zzK ((zFX h2).trans e.symm)] at this; omega]
   ·rw [if_neg h2,zIu fun z hz e=>by
     have a:=zws x t
     rcases List.mem_cons.1 hz with rfl | hz
     ·exact h2 (zzK e)
     ·have b:=zAc (show cT t x<0 by omega) (hc.1 z hz)
      rw [zzK e.symm] at b; omega]
    rw [List.mem_cons]
theorem zIG {t y:Term}:∀ {l:List Term},Dst l→(y∈updA t l↔SM l t y)
 | [],_=>by rw [zIu (by simp)]; simp [updA]
 | x::r,h=>by
  have hd:=List.pairwise_cons.1 h
  unfold updA
  by_cases h2:x.Factors=t.Factors
  ·rw [if_pos h2,List.mem_cons,zNW h2 fun z hz e=>hd.1 z hz (h2.trans e.symm),h2]
  ·rw [if_neg h2,List.mem_cons,zHM h2 hd.1,zIG hd.2]
theorem zzP {t:Term}:∀ {l:List Term},Srs l→Srs (putA t l)
 | [],_=>by simp [putA]
 | x::r,h=>by
  have hc:=List.pairwise_cons.1 h
  unfold putA
  by_cases h1:cT x t<0
  ·rw [if_pos h1]
   refine List.pairwise_cons.2 ⟨fun z hz=> ?_,zzP hc.2⟩
   rcases (zF2 hc.2).1 hz with ⟨h2,_⟩ | ⟨h2,_⟩
   ·exact hc.1 z h2
   ·have:cT x z=cT x t:=by unfold cT; rw [h2]
    rw [this]; exact h1
  ·rw [if_neg h1]
   by_cases h2:cT x t=0
   ·rw [if_pos h2]
    refine List.pairwise_cons.2 ⟨fun z hz=> ?_,hc.2⟩
    have:=hc.1 z hz
    unfold cT at this ⊢
    rw [← zFX h2]; exact this
   ·rw [if_neg h2]
    have a:=zws x t
    refine List.pairwise_cons.2 ⟨fun z hz=> ?_,h⟩
    rcases List.mem_cons.1 hz with rfl | hz
    ·omega
    ·exact zAc (show cT t x<0 by omega) (hc.1 z hz)
theorem zIj {t:Term}:∀ {l:List Term},Dst l→Dst (updA t l)
 | [],_=>by simp [updA]
 | x::r,h=>by
  have hc:=List.pairwise_cons.1 h
  unfold updA
  by_cases h2:x.Factors=t.Factors
  ·rw [if_pos h2]
   exact List.pairwise_cons.2 ⟨fun z hz=>hc.1 z hz,hc.2⟩
  ·rw [if_neg h2]
   refine List.pairwise_cons.2 ⟨fun z hz=> ?_,zIj hc.2⟩
   rcases (zIG hc.2).1 hz with ⟨h3,_⟩ | ⟨h3,_⟩
   ·exact hc.1 z h3
   ·rw [h3]; exact h2
theorem Dst.nodup {l:List Term} (h:Dst l):l.Nodup:=h.imp fun {x y} hxy e=>hxy (by rw [e])
theorem zQj {l l':List Term} (h:l.Perm l') (t y:Term):SM l t y↔SM l' t y:=by
 unfold SM
 simp only [h.mem_iff]
theorem zOf {l l':List Term} (t:Term) (h:l.Perm l') (hs:Srs l) (hd:Dst l'):(putA t l).Perm (updA t l'):=
 (List.perm_ext_iff_of_nodup (zzP hs).dst.nodup (zIj hd).nodup).2 fun y=>by rw [zF2 hs,zIG hd,zQj h]
def sumA (a b:List Term):List Term:=b.foldl (fun a t=>putA t a) a
def zBp (ts:List Term):List Term:=ts.foldl (fun a t=>updA t a) []
theorem zIR:∀ (b a:List Term),Srs a→Srs (sumA a b)
 | [],_,h=>h
 | t::r,a,h=>zIR r (putA t a) (zzP h)
theorem zJo:∀ (ts l l':List Term),l.Perm l'→Srs l→Dst l'→(sumA l ts).Perm (ts.foldl (fun a t=>updA t a) l')∧Dst (ts.foldl (fun a t=>updA t a) l')
 | [],l,l',h,_,hd=>⟨h,hd⟩
 | t::r,l,l',h,hs,hd=>zJo r (putA t l) (updA t l') (zOf t h hs hd) (zzP hs) (zIj hd)
theorem zK4 {t:Term}:∀ {l:List Term},(∀ x∈l,cT x t<0)→putA t l=l++[t]
 | [],_=>rfl
 | x::r,h=>by
  unfold putA
  rw [if_pos (h x (by simp)),zK4 fun y hy=>h y (by simp [hy])]; rfl
theorem zMa:∀ (r l:List Term),Srs (l++r)→sumA l r=l++r
 | [],l,_=>by simp [sumA]
 | t::r,l,h=>by
  have e:sumA l (t::r)=sumA (putA t l) r:=rfl
  have hp:=List.pairwise_append.1 h
  rw [e,zK4 fun x hx=>hp.2.2 x hx t (by simp),zMa r (l++[t]) (by simpa using h)]
  simp
theorem sum_nil {a:List Term} (h:Srs a):sumA [] a=a:=zMa a [] h
theorem zJC {a b:Int} (ha:1≤a) (hb:1≤b):1≤zsa a b∧zsa a b≤1152921504606846976:=by
 unfold zsa
 split
 ·omega
 ·omega
def cOK (t:Term):Prop:=1≤t.Coeff∧t.Coeff≤1152921504606846976
theorem zPr {t:Term} (ht:cOK t):∀ {l:List Term},(∀ x∈l,cOK x)→∀ x∈putA t l,cOK x
 | [],_,x,hx=>by simp only [putA,List.mem_singleton] at hx; subst hx; exact ht
 | y::r,h,x,hx=>by
  unfold putA at hx
  split at hx
  ·rcases List.mem_cons.1 hx with rfl | hx
   ·exact h _ (by simp)
   ·exact zPr ht (fun z hz=>h z (by simp [hz])) x hx
  ·split at hx
   ·rcases List.mem_cons.1 hx with rfl | hx
    ·exact zJC (h y (by simp)).1 ht.1
    ·exact h x (by simp [hx])
   ·rcases List.mem_cons.1 hx with rfl | hx
    ·exact ht
    ·exact h x hx
theorem zIg {t:Term}:∀ (l:List Term),(putA t l).length≤l.length+1
 | []=>by simp [putA]
 | x::r=>by
  have:=zIg (t:=t) r
  unfold putA
  split
  ·simp only [List.length_cons]; omega
  ·split <;>simp
theorem zIB:∀ (b a:List Term),(sumA a b).length≤a.length+b.length
 | [],a=>by simp [sumA]
 | t::r,a=>by
  have h1:=zIB r (putA t a)
  have h2:=zIg (t:=t) a
  show (sumA (putA t a) r).length≤_
  simp only [List.length_cons]; omega
def cF (x y:Factor):Int:=cmpT (zds x.Atom) (zds y.Atom)
theorem zLQ {x y:Factor} (h:cF x y=0):x.Atom=y.Atom:=zHh _ _ (zwu _ _ h)
theorem zQi (x y:Factor):cF y x= - cF x y:=zuh _ _
theorem zJN {a b c:TT} (h1:cmpT a b<0) (h2:cmpT b c<0):cmpT a c<0:=by
 have h:=zHz a b c (by omega) (by omega)
 by_cases e:cmpT a c=0
 ·have e':=zwu a c e
  subst e'
  have:=zuh a b
  omega
 ·omega
theorem zw6 {x y z:Factor} (h1:cF x y<0) (h2:cF y z<0):cF x z<0:=zJN h1 h2
abbrev Srf (l:List Factor):Prop:=l.Pairwise fun x y=>cF x y<0
def facA (f:Factor):List Factor→List Factor
 | []=>[f]
 | x::r=>if cF x f<0 then x::facA f r else if cF x f=0 then (if f.Atom.Kind<3 then ⟨f.Atom,x.Exp+f.Exp⟩ else f)::r else f::x::r
def zby:List Factor→List Factor→List Factor
 | [],b=>b
 | x::a,[]=>x::a
 | x::a,y::b=>if cF x y<0 then x::zby a (y::b) else if 0<cF x y then y::zby (x::a) b else (if x.Atom.Kind=3∨x.Atom.Kind=4 then x else ⟨x.Atom,x.Exp+y.Exp⟩)::zby a b
termination_by a b=>a.length+b.length
theorem zxO (a:List Factor):zby a []=a:=by cases a <;>rw [zby]
theorem zAr {m:Factor} {L b:List Factor} (h:∀ z∈b,cF m z<0):zby (m::L) b=m::zby L b:=by
 cases b with
 | nil=>rw [zxO,zxO]
 | cons z b=>rw [zby,if_pos (h z (by simp))]
def eOK (f:Factor):Prop:=(0≤f.Atom.Kind∧f.Atom.Kind≤4)∧(f.Atom.Kind=3∨f.Atom.Kind=4→f.Exp=1)
theorem zKH {y:Factor} {b:List Factor} (hb:∀ z∈b,cF y z<0) (hy:eOK y):∀ {a:List Factor},(∀ x∈a,eOK x)→zby (facA y a) b=zby a (y::b)
 | [],_=>by
  rw [facA,zAr hb,zby,zby]
 | x::a,ha=>by
  unfold facA
  by_cases h1:cF x y<0
  ·rw [if_pos h1,zAr fun z hz=>zw6 h1 (hb z hz),zKH hb hy fun z hz=>ha z (by simp [hz]),zAr (m:=x) (b:=y::b) fun z hz=>by
    rcases List.mem_cons.1 hz with rfl | hz
    ·exact h1
    ·exact zw6 h1 (hb z hz)]
  ·rw [if_neg h1]
   by_cases h2:cF x y=0
   ·have ea:=zLQ h2
    rw [if_pos h2,zAr fun z hz=>by
     have e:(if y.Atom.Kind<3 then (⟨y.Atom,x.Exp+y.Exp⟩:Factor) else y).Atom=y.Atom:=by split <;>rfl
     have:=hb z hz
     unfold cF at this ⊢; rw [e]; exact this]
    rw [zby,if_neg h1,if_neg (show ¬ 0<cF x y by omega)]
    congr 1
    have hx:=ha x (by simp)
    obtain ⟨xa,xe⟩:=x
    obtain ⟨ya,ye⟩:=y
    simp only at ea
    subst ea
    obtain ⟨⟨k0,k4⟩,h3⟩:=hx
    obtain ⟨_,h3'⟩:=hy
    simp only at k0 k4 h3 h3' ⊢
    by_cases hk:xa.Kind<3
    ·rw [if_pos hk,if_neg (by omega)]
    ·have hk':xa.Kind=3∨xa.Kind=4:=by omega
     rw [if_neg hk,if_pos hk',h3 hk',h3' hk']
   ·rw [if_neg h2,zAr hb]
    rw [zby,if_neg h1,if_pos (by omega)]
theorem zDM:∀ (b a:List Factor),Srf b→(∀ x∈a,eOK x)→(∀ x∈b,eOK x)→b.foldl (fun l f=>facA f l) a=zby a b
 | [],a,_,_,_=>by rw [zxO]; rfl
 | y::b,a,hs,ha,hb=>by
  have hc:=List.pairwise_cons.1 hs
  have hy:=hb y (by simp)
  rw [List.foldl_cons,zDM b (facA y a) hc.2 (fun x hx=> ?_) fun x hx=>hb x (by simp [hx]),zKH hc.1 hy ha]
  -- kinds and exponents are kept
  clear hs hc hb
  induction a with
  | nil=>simp only [facA,List.mem_singleton] at hx; subst hx; exact hy
  | cons z r ih=>
   unfold facA at hx
   split at hx
   ·rcases List.mem_cons.1 hx with rfl | hx
    ·exact ha _ (by simp)
    ·exact ih (fun w hw=>ha w (by simp [hw])) hx
   ·split at hx
    ·rcases List.mem_cons.1 hx with rfl | hx
     ·split
      ·rename_i hk; exact ⟨hy.1,fun h=>by simp only at h; omega⟩
      ·exact hy
     ·exact ha x (by simp [hx])
    ·rcases List.mem_cons.1 hx with rfl | hx
     ·exact hy
     ·exact ha x hx
theorem zpq {x:Factor}:∀ {a b:List Factor},x∈zby a b→∃ y,(y∈a∨y∈b)∧x.Atom=y.Atom
 | [],b,h=>⟨x,.inr (by rwa [zby] at h),rfl⟩
 | y::a,[],h=>⟨x,.inl (by rwa [zby] at h),rfl⟩
 | y::a,z::b,h=>by
  rw [zby] at h
  split at h
  ·rcases List.mem_cons.1 h with rfl | h
   ·exact ⟨x,.inl (by simp),rfl⟩
   ·obtain ⟨w,hw,e⟩:=zpq h
    rcases hw with hw | hw
    ·exact ⟨w,.inl (by simp [hw]),e⟩
    ·exact ⟨w,.inr hw,e⟩
  ·split at h
   ·rcases List.mem_cons.1 h with rfl | h
    ·exact ⟨x,.inr (by simp),rfl⟩
    ·obtain ⟨w,hw,e⟩:=zpq h
     rcases hw with hw | hw
     ·exact ⟨w,.inl hw,e⟩
     ·exact ⟨w,.inr (by simp [hw]),e⟩
   ·rcases List.mem_cons.1 h with rfl | h
    ·exact ⟨y,.inl (by simp),by split <;>rfl⟩
    ·obtain ⟨w,hw,e⟩:=zpq h
     rcases hw with hw | hw
     ·exact ⟨w,.inl (by simp [hw]),e⟩
     ·exact ⟨w,.inr (by simp [hw]),e⟩
termination_by a b=>a.length+b.length
theorem zz9:∀ (a b:List Factor),(zby a b).length≤a.length+b.length
 | [],b=>by rw [zby]; simp
 | y::a,[]=>by rw [zby]; simp
 | y::a,z::b=>by
  rw [zby]
  split
  ·have:=zz9 a (z::b); simp only [List.length_cons] at this ⊢; omega
  ·split
   ·have:=zz9 (y::a) b; simp only [List.length_cons] at this ⊢; omega
   ·have:=zz9 a b; simp only [List.length_cons] at this ⊢; omega
termination_by a b=>a.length+b.length
theorem zAa {x:Factor} {B:Int}:∀ {a b:List Factor},(∀ y∈a,1≤y.Exp∧y.Exp≤B)→(∀ y∈b,1≤y.Exp∧y.Exp≤B)→x∈zby a b→1≤x.Exp∧x.Exp≤2*B
 | [],b,ha,hb,h=>by rw [zby] at h; have:=hb x h; omega
 | y::a,[],ha,hb,h=>by rw [zby] at h; have:=ha x h; omega
 | y::a,z::b,ha,hb,h=>by
  have hy:=ha y (by simp)
  have hz:=hb z (by simp)
  rw [zby] at h
  split at h
  ·rcases List.mem_cons.1 h with rfl | h
   ·omega
   ·exact zAa (fun w hw=>ha w (by simp [hw])) hb h
  ·split at h
   ·rcases List.mem_cons.1 h with rfl | h
    ·omega
    ·exact zAa ha (fun w hw=>hb w (by simp [hw])) h
   ·rcases List.mem_cons.1 h with rfl | h
    ·split
     ·omega
     ·simp only; omega
    ·exact zAa (fun w hw=>ha w (by simp [hw])) (fun w hw=>hb w (by simp [hw])) h
termination_by a b=>a.length+b.length
def zrg (a b:Int):Int:=if Int.tdiv 1152921504606846976 b<a then 1152921504606846976 else a*b
def ziF (x y:Term):Term:=⟨zrg x.Coeff y.Coeff,zby x.Factors y.Factors⟩
def zfW (a b:List Term):List Term:=a.flatMap fun x=>b.map (ziF x)
def ztz (a b:List Term):List Term:=sumA [] (zfW a b)
theorem zH8 {a b:Int} (ha:1≤a∧a≤1152921504606846976) (hb:1≤b∧b≤1152921504606846976):(1≤zrg a b∧zrg a b≤1152921504606846976)∧(¬ Int.tdiv 1152921504606846976 b<a→a*b≤1152921504606846976):=by
 have h1:¬ Int.tdiv 1152921504606846976 b<a→a*b≤1152921504606846976:=fun h=>by
  rw [Int.tdiv_eq_ediv_of_nonneg (by omega)] at h
  have h2:a≤1152921504606846976 / b:=by omega
  exact (Int.le_ediv_iff_mul_le (by omega)).1 h2
 refine ⟨?_,h1⟩
 unfold zrg
 split
 ·omega
 ·rename_i h
  refine ⟨?_,h1 h⟩
  have:=Int.mul_le_mul ha.1 hb.1 (by omega) (by omega)
  omega
theorem zNE {t:Term} {a b:List Term} (h:t∈zfW a b):∃ x∈a,∃ y∈b,t=ziF x y:=by
 obtain ⟨x,hx,ht⟩:=List.mem_flatMap.1 h
 obtain ⟨y,hy,rfl⟩:=List.mem_map.1 ht
 exact ⟨x,hx,y,hy,rfl⟩
theorem zJd (a b:List Term):(zfW a b).length=a.length*b.length:=by
 unfold zfW
 induction a with
 | nil=>simp
 | cons x r ih=>rw [List.flatMap_cons,List.length_append,ih,List.length_map,List.length_cons,Nat.add_mul]; omega
section
variable (g:List Term→Bool×List Term)
theorem zRs (l:List (List Term)) (hl:l.length≤1000000) (hg:∀ a∈l,g a=(true,a)) (n:Nat) (hn:l.length<n) (x0 x1 x2 x3:Int) (x4:List Weighted) (x5 x6 x7:Int) (x8:ByteArray) (t0 t1 t2 t3 t4 t5 t6:Int) (t7:ByteArray):
  zpS g n l.length 0 x0 x1 x2 x3 x4 x5 x6 x7 x8 t0 t1 t2 t3 t4 t5 t6 t7 l=(true,(x0,x1,x2,x3,x4,x5,x6,x7,x8,t0,t1,t2,t3,t4,t5,t6,t7,l)):=by
 have:=zdK (W:=zie g) (z:=default) l.length (fun i=>((),(),(l.length:Int),(i:Int),())) (fun _=>((x0,x1,x2,(),x3,x4,x5,x6,x7,x8,()),(t0,t1,t2,(),t3,(),t4,t5,t6,t7,()),l,())) (fun _=>true) default (x0,x1,x2,x3,x4,x5,x6,x7,x8,t0,t1,t2,t3,t4,t5,t6,t7,l)
  (fun i hi H K D=>by
   show (ze9 g l.length i x0 x1 x2 x3 x4 x5 x6 x7 x8 t0 t1 t2 t3 t4 t5 t6 t7 l).ev H K D=_
   unfold ze9
   simp only [Wy.ev_i,Wy.ev_k,Wy.ev_h,Wy.ev_bn,Wy.ev_d,tT,hi,hg _ (zH hi)]
   rw [zbb (by omega),zG8 hi])
  (fun H K D=>by
   show (ze9 g l.length l.length x0 x1 x2 x3 x4 x5 x6 x7 x8 t0 t1 t2 t3 t4 t5 t6 t7 l).ev H K D=_
   unfold ze9
   simp only [Wy.ev_i,Wy.ev_k,tT,Nat.lt_irrefl]) n hn
 rw [show allN (fun _=>true) l.length 0=true from zd1.2 fun _ _ _=>rfl] at this
 exact this
theorem zRj (l:List Weighted) (hl:l.length≤1000000) (hg:∀ a∈l,g a.Ann=(true,a.Ann)) (n:Nat) (hn:l.length<n) (x0 x1 x2 x3 x4 x5 x6:Int) (x7:ByteArray) (t0 t1 t2 t3 t4 t5 t6:Int) (t7:ByteArray) (b2:List (List Term)):
  zpQ g n l.length 0 x0 x1 x2 x3 x4 x5 x6 x7 t0 t1 t2 t3 t4 t5 t6 t7 b2 l=(true,(x0,x1,x2,x3,x4,x5,x6,x7,t0,t1,t2,t3,t4,t5,t6,t7,b2,l)):=by
 have:=zdK (W:=zh8 g) (z:=default) l.length (fun i=>((),(),(l.length:Int),(i:Int),())) (fun _=>((x0,x1,x2,(),x3,(),x4,x5,x6,x7,()),(t0,t1,t2,(),t3,(),t4,t5,t6,t7,()),b2,l,())) (fun _=>true) default (x0,x1,x2,x3,x4,x5,x6,x7,t0,t1,t2,t3,t4,t5,t6,t7,b2,l)
  (fun i hi H K D=>by
   show (zff g l.length i x0 x1 x2 x3 x4 x5 x6 x7 t0 t1 t2 t3 t4 t5 t6 t7 b2 l).ev H K D=_
   unfold zff
   simp only [Wy.ev_i,Wy.ev_k,Wy.ev_h,Wy.ev_bn,Wy.ev_d,tT,hi,hg _ (zH hi)]
   have:l.set i (⟨(l.getD i default).Value,(l.getD i default).Ann⟩:Weighted)=l:=zG8 hi
   rw [zbb (by omega),this])
  (fun H K D=>by
   show (zff g l.length l.length x0 x1 x2 x3 x4 x5 x6 x7 t0 t1 t2 t3 t4 t5 t6 t7 b2 l).ev H K D=_
   unfold zff
   simp only [Wy.ev_i,Wy.ev_k,tT,Nat.lt_irrefl]) n hn
 rw [show allN (fun _=>true) l.length 0=true from zd1.2 fun _ _ _=>rfl] at this
 exact this
theorem zHJ (x:Atom) (h1:x.Args.length≤1000000) (h2:x.Items.length≤1000000) (hg:∀ a∈x.Args,g a=(true,a)) (hgi:∀ w∈x.Items,g w.Ann=(true,w.Ann)):zhl g x=(true,x):=by
 have hreach:zT=70368744177664:=rfl
 unfold zhl zl1 zcV zdA
 have e1:∀ k:Nat,k≤1000→decide (x.Args.length*k≤zT)=true:=fun k hk=>by
  have:=Nat.mul_le_mul h1 hk
  simp only [decide_eq_true_eq]; omega
 have e2:∀ k:Nat,k≤1000→decide (x.Items.length*k≤zT)=true:=fun k hk=>by
  have:=Nat.mul_le_mul h2 hk
  simp only [decide_eq_true_eq]; omega
 simp only [Wy.fin_bn,Wy.fin_k,e1 _ (by omega:24≤1000),e2 _ (by omega:56≤1000),Int.ofNat_eq_natCast,cond_true]
 rw [zRs g _ h1 hg _ (by omega)]
 simp only [cond_true,e2 _ (by omega:56≤1000)]
 rw [zRj g _ h2 hgi _ (by omega)]
 simp only [cond_true]
 cases x; rfl
theorem zLr (gx:Atom→Bool×Atom) (a:List Term) (hl:a.length≤1000000) (hg:∀ t∈a,t.Factors.length≤1000000∧∀ f∈t.Factors,gx f.Atom=(true,f.Atom)):zjX gx a=(true,a):=by
 unfold zjX zoF
 have:=cp_3 gx a hl hg (a.length+(Int.ofNat a.length).toNat +Int.toNat (0:Int)+(0:Nat)+(1:Nat)) (by omega)
 rw [show Int.ofNat a.length=(a.length:Int) from rfl] at *
 rw [Wy.fin_bn,this]; rfl
end
theorem zH9:∀ n,
  (∀ d a,zy d a→2*d≤n→zjZ n a=(true,a))∧
  (∀ d x,zc8 (zy d) x→2*d+1≤n→zjO n x=(true,x))
 | 0=>by
  refine ⟨fun d a h hd=> ?_,fun d x h hd=>by omega⟩
  have:d=0:=by omega
  subst this; exact h.elim
 | n+1=>by
  obtain ⟨h1,h2⟩:=zH9 n
  refine ⟨fun d a h hd=> ?_,fun d x h hd=> ?_⟩
  ·cases d with
   | zero=>exact h.elim
   | succ d=>
    rw [zB0]
    exact zLr _ a h.1 fun t ht=>⟨(h.2 t ht).1,fun f hf=>h2 d _ ((h.2 t ht).2 f hf) (by omega)⟩
  ·rw [zyp]
   exact zHJ _ x h.1.1 h.1.2.1 (fun a ha=>h1 d a (h.2.1 a ha) (by omega)) fun w hw=>h1 d _ (h.2.2 w hw).2 (by omega)
theorem zEN {d:Nat} {a:List Term} (h:zy d a) (hd:d≤100):zfv a=(true,a):=(zH9 1000).1 d a h (by omega)
def fitR (a:List Term):List Term×Int:=bif zhL a then (a,0) else ([],6)
theorem zzt {d:Nat} {a:List Term} (h:zy d a) (hd:d≤100) (hs:zJ a≤4611686018427387904):zdq a=(true,fitR a):=by
 unfold zdq zpE fitR
 simp only [Wy.fin_bn,Wy.fin_i,Wy.fin_k,zIW h hd hs,zEN h hd,cond_true]
 cases zhL a <;>rfl
theorem zIb {d:Nat} {a:List Term} (h:zy d a) (hd:d≤100) (hs:zJ a≤4611686018427387904):zq8 a=(true,fitR a):=by
 unfold zq8 zGo fitR
 simp only [Wy.fin_bn,Wy.fin_i,Wy.fin_k,zMp h hd hs,cond_true]
 cases zhL a <;>rfl
def oneA (x:Atom):List Term:=[⟨1,[⟨x,1⟩]⟩]
theorem zFJ (x:Atom):(zem x).2=oneA x:=by
 unfold zem zqi
 rw [Atom.eta]; rfl
theorem zIQ (x:Atom):(zr4 x).2=oneA x:=by
 unfold zr4 zFw
 rw [Atom.eta]; rfl
theorem zIV {d:Nat} {x:Atom} (h:zc8 (zy d) x):zy (d+1) (oneA x):=by
 refine ⟨by simp [oneA],fun t ht=> ?_⟩
 simp only [oneA,List.mem_singleton] at ht
 subst ht
 refine ⟨by simp,fun f hf=> ?_⟩
 simp only [List.mem_singleton] at hf
 subst hf; exact h
theorem zOU (x:Atom):zJ (oneA x)=2+zeq x:=by
 rw [oneA,zh1,zr3,zeE,zmq]
 simp only [List.length_singleton]; omega
section
variable {α β ρ τ:Type} [Inhabited τ]
theorem zIE (p:τ→Bool):∀ l:List τ,l.take (l.takeWhile p).length=l.takeWhile p
 | []=>rfl
 | x::r=>by
  rw [List.takeWhile_cons]
  cases p x with
  | true=>simp [zIE p r]
  | false=>simp
theorem zIL (p:τ→Bool):∀ l:List τ,l.drop (l.takeWhile p).length=l.dropWhile p
 | []=>rfl
 | x::r=>by
  rw [List.takeWhile_cons,List.dropWhile_cons]
  cases p x with
  | true=>simp [zIL p r]
  | false=>simp
theorem zJv {W:α→β→Wy α β ρ} {z:ρ} (l:List τ) (p:τ→Bool) (ex:Nat→α) (ey:Nat→β) (res:Nat→ρ)
  (h:∀ i,i<l.length→∀ (H:α→β→Bool×ρ) K D,(W (ex i) (ey i)).ev H K D=bif p (l.getD i default) then H (ex (i+1)) (ey (i+1)) else K (res i))
  (he:∀ (H:α→β→Bool×ρ) K D,(W (ex l.length) (ey l.length)).ev H K D=K (res l.length)):
  ∀ n i,l.length<i+n→i≤l.length→zN W z n (ex i) (ey i)=(true,res (i+((l.drop i).takeWhile p).length))
 | 0,i,h1,h2=>by omega
 | n+1,i,h1,h2=>by
  show (W (ex i) (ey i)).ev (zN W z n) (fun r=>(true,r)) (false,z)=_
  by_cases hi:i<l.length
  ·rw [h i hi,zbF hi,List.takeWhile_cons]
   cases hp:p (l.getD i default) with
   | false=>simp
   | true=>
    rw [cond_true,zJv l p ex ey res h he n (i+1) (by omega) (by omega)]
    simp only [if_true,List.length_cons]
    congr 2; omega
  ·have:i=l.length:=by omega
   subst this
   rw [he,zeR hi]; rfl
theorem zHd {W:α→β→Wy α β ρ} {z:ρ} (l:List τ) (p:τ→Bool) (ex:Nat→α) (ey:Nat→β) (res:Nat→ρ)
  (h:∀ i,i<l.length→∀ (H:α→β→Bool×ρ) K D,(W (ex i) (ey i)).ev H K D=bif p (l.getD i default) then H (ex (i+1)) (ey (i+1)) else K (res i))
  (he:∀ (H:α→β→Bool×ρ) K D,(W (ex l.length) (ey l.length)).ev H K D=K (res l.length)) (n:Nat) (hn:l.length<n):
  zN W z n (ex 0) (ey 0)=(true,res (l.takeWhile p).length):=by
 have:=zJv (z:=z) l p ex ey res h he n 0 (by omega) (by omega)
 simpa using this
end
theorem zMv {τ:Type} (l:List τ) (k:Nat):List.take (k - Int.toNat 0) (List.drop (Int.toNat 0) l)=l.take k:=by simp
theorem zw2 {τ:Type} (l:List τ) (k:Nat):List.take ((Int.ofNat l.length).toNat - k) (List.drop k l)=l.drop k:=by
 simp only [Int.ofNat_eq_natCast,Int.toNat_natCast]
 rw [List.take_of_length_le (by simp)]
def zFP (a:Int) (b:Int):Wy0 (Int):=.k (if 1152921504606846976<IntKind.i64.wrap (a+b) then 1152921504606846976 else IntKind.i64.wrap (a+b))
def zvi (a:Int) (b:Int):Bool×Int:=(zFP a b).fin default
end Go.Proofs.YtnolcogncjijpaaGreatDoor
end
