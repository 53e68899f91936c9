/- Texts of this claim, joined (the program, its functions in plain words, and what they compute). -/
import Derived.Test.YtljlfiomikifjaaGreatDoorGC8
set_option autoImplicit false
set_option linter.unusedVariables false
set_option linter.unusedSectionVars false
set_option linter.unusedSimpArgs false
set_option maxRecDepth 1000000
set_option maxHeartbeats 0
/- What valid annotations are like; copies. -/
noncomputable section
namespace Go.Proofs.YtljlfiomikifjaaGreatDoor
open Go Go.Ab
theorem zzR {τ:Type} [Inhabited τ] {l:List τ} {x:τ} (h:x∈l):∃ i,i<l.length/\l.getD i default=x:=by
 obtain ⟨i,hi,e⟩:=List.mem_iff_getElem.1 h;exact ⟨i,hi,by rw [List.getD_eq_getElem?_getD,List.getElem?_eq_getElem hi]; exact e⟩
theorem zKw {vat:At->Bool} {a:yC} (h:zAb vat a=true):zfB a=true:=by
 simp only [zAb,qc] at h; exact h.1
theorem zxN {vat:At->Bool} {a:yC} (h:zAb vat a=true) {t:Term} (ht:t∈a):(1<=t.Cf/\t.Cf<=1152921504606846976)/\okF vat t.Fs=true:=by
 simp only [zAb,qc] at h;obtain ⟨i,hi,rfl⟩:=zzR ht;have:=zdV.1 h.2 i (by omega) (by omega)
 simp only [zG0,qc,qe] at this;exact ⟨this.1.1,this.2⟩
theorem zqg {vat:At->Bool} {fs:yD} (h:okF vat fs=true) {f:Fc} (hf:f∈fs):(1<=f.Exp/\(f.At.Kind=3\/f.At.Kind=4->f.Exp=1))/\vat f.At=true:=by
 obtain ⟨i,hi,rfl⟩:=zzR hf;have:=zdV.1 h i (by omega) (by omega)
 simp only [zSM,qc,qe] at this;refine ⟨⟨this.1.1.1,λhk=> ?_⟩,this.2⟩
 have h2:=this.1.1.2;rcases hk with hk | hk
 ·rw [hk] at h2; simpa using h2
 ·rw [hk] at h2; simpa using h2
theorem zbl5 {b:Value} (h:bz b=true):b=⟨0,0,ByteArray.mk #[]⟩:=by
 unfold bz at h;rw [z1t] at h;simp only [qc,beq_iff_eq,qe,and_true] at h;obtain ⟨k,i,t⟩:=b;simp only at h;obtain ⟨rfl,rfl,rfl⟩:=h;rfl
theorem zxP {v:Value} (h:zwu v=true):v.Text.size<=255:=by
 simp only [zwu,Bool.or_eq_true,qc,beq_iff_eq,qe] at h;omega
theorem zXq {x:At} (h:plA x=true):x.Func=0/\x.Items=[]/\x.Op=0/\x.Bd=⟨0,0,ByteArray.mk #[]⟩:=by
 simp only [plA,qc,beq_iff_eq] at h;exact ⟨h.1.1.1,List.length_eq_zero_iff.1 h.1.1.2,h.1.2,zbl5 h.2⟩
theorem zbms {r:RowID} (h:rz r=true):r=⟨0,0⟩:=by
 simp only [rz,qc,beq_iff_eq,and_true] at h;obtain ⟨t,s⟩:=r;simp only at h;obtain ⟨rfl,rfl⟩:=h; rfl
inductive VA (V:yC->Bool):At->Prop
 | var (r:RowID) (h:zCH r=true):VA V ⟨0,r,[],0,[],0,⟨0,0,ByteArray.mk #[]⟩⟩
 | mon (a b:yC) (ha:V a=true) (hb:V b=true) (ha0:a≠[]) (hb0:b≠[]) (h:a≠b):VA V ⟨1,⟨0,0⟩,[a,b],0,[],0,⟨0,0,ByteArray.mk #[]⟩⟩
 | del (a:yC) (ha:V a=true) (ha0:a≠[]) (h:isC a=false) (h':isU a=false):VA V ⟨2,⟨0,0⟩,[a],0,[],0,⟨0,0,ByteArray.mk #[]⟩⟩
 | abs (a:yC) (ha:V a=true) (ha0:a≠[]) (h:zu5 a=false):VA V ⟨3,⟨0,0⟩,[a],0,[],0,⟨0,0,ByteArray.mk #[]⟩⟩
 | tst (f:Int) (l:yE) (o:Int) (b:Value) (hl:l≠[]) (hi:∀ w∈l,V w.Ann=true/\w.Ann≠[]) (hs:zZ1 l=true) (hf:zDv f l o b=true):VA V ⟨4,⟨0,0⟩,[],f,l,o,b⟩
theorem zdD {V:yC->Bool} {x:At}:zd8 V x=true↔VA V x:=by
 constructor
 ·intro h;have hk:=zF4 h;obtain ⟨k,r,l,f,its,o,b⟩:=x;simp only at hk;unfold zd8 at h;simp only [qc] at h;obtain ⟨h1,h2⟩:=h
  have ha:∀ a∈l,V a=true/\a≠[]:=λa ha=>by
   have:=List.all_eq_true.1 h1 a ha;simp only [qc,Bool.not_eq_true',beq_eq_false_iff_ne] at this;exact ⟨this.1,λe=>this.2 (by rw [e]; rfl)⟩
  by_cases h0:k=0
  ·subst h0;simp only [if_true,qc,beq_iff_eq] at h2;obtain ⟨e1,e2,e3,e4⟩:=zXq h2.1.1;simp only at e1 e2 e3 e4;subst e1 e2 e3 e4;obtain rfl:l=[]:=List.length_eq_zero_iff.1 h2.2;exact .var r h2.1.2
  simp only [h0,if_false,qc] at h2;obtain ⟨hr,h2⟩:=h2;have hr':=zbms hr;subst hr';by_cases h0':k=1
  ·subst h0';simp only [if_true,qc] at h2;obtain ⟨e1,e2,e3,e4⟩:=zXq h2.1;simp only at e1 e2 e3 e4;subst e1 e2 e3 e4
   match l,h2.2,ha with
   | [a,b],h3,ha=>exact .mon a b (ha a (by simp)).1 (ha b (by simp)).1 (ha a (by simp)).2 (ha b (by simp)).2 (by simpa [z8X] using h3)
  simp only [h0',if_false] at h2;by_cases h2':k=2
  ·subst h2';simp only [if_true,qc] at h2;obtain ⟨e1,e2,e3,e4⟩:=zXq h2.1;simp only at e1 e2 e3 e4;subst e1 e2 e3 e4
   match l,h2.2,ha with
   | [a],h3,ha=>
    simp only [zJI,qc,Bool.not_eq_true'] at h3;exact .del a (ha a (by simp)).1 (ha a (by simp)).2 h3.1 h3.2
  simp only [h2',if_false] at h2;by_cases h3':k=3
  ·subst h3';simp only [if_true,qc] at h2;obtain ⟨e1,e2,e3,e4⟩:=zXq h2.1;simp only at e1 e2 e3 e4;subst e1 e2 e3 e4
   match l,h2.2,ha with
   | [a],h3,ha=>
    simp only [zJI,Bool.not_eq_true'] at h3;exact .abs a (ha a (by simp)).1 (ha a (by simp)).2 h3
  simp only [h3',if_false] at h2;have h4':k=4:=by omega
  subst h4';simp only [if_true,qc,beq_iff_eq,qe] at h2;obtain ⟨⟨⟨⟨h3,h4⟩,h5⟩,h6⟩,h7⟩:=h2;obtain rfl:l=[]:=List.length_eq_zero_iff.1 h3
  exact .tst f its o b (λe=>by rw [e] at h4; simp at h4) (λw hw=>by
   have:=List.all_eq_true.1 h5 w hw;simp only [qc,Bool.not_eq_true',beq_eq_false_iff_ne] at this;exact ⟨this.1,λe=>this.2 (by rw [e]; rfl)⟩) h6 h7
 ·intro h
  have ne:∀ a:yC,a≠[]->(a.length==0)=false:=λa ha=>by
   rw [beq_eq_false_iff_ne]; exact λe=>ha (List.length_eq_zero_iff.1 e)
  cases h with
  | var r h=>simp [zd8,zrO,plA,bz,h]
  | mon a b ha hb ha0 hb0 h=>simp [zd8,zrO,plA,bz,rz,z8X,ha,hb,ha0,hb0,h]
  | del a ha ha0 h h'=>simp [zd8,zrO,plA,bz,rz,zJI,ha,ha0,h,h']
  | abs a ha ha0 h=>simp [zd8,zrO,plA,bz,rz,zJI,ha,ha0,h]
  | tst f l o b hl hi hs hf=>
   have h1:zE9 V l=true:=List.all_eq_true.2 λw hw=>by rw [(hi w hw).1,ne _ (hi w hw).2]; rfl
   have h2:0<l.length:=by
    cases l with
    | nil=>exact absurd rfl hl
    | cons x r=>simp
   simp [zd8,zrO,rz,h1,hs,hf,h2]
theorem zuc {a:yC} (h:zfB a=true):a.length<=512/\zbh a<=8/\zK a<=4096/\∀ t∈a,t.Fs.length<=64/\∀ f∈t.Fs,f.Exp<=64/\f.At.Items.length<=1024:=by
 simp only [zfB,qc,List.all_eq_true,qe] at h;refine ⟨h.1.1.1,h.1.1.2,h.1.2,λt ht=> ?_⟩
 have:=h.2 t ht;simp only [zEp,Bool.not_eq_true',Bool.or_eq_false_iff,decide_eq_false_iff_not,List.any_eq_false] at this;refine ⟨by omega,λf hf=> ?_⟩
 have h2:=this.2 f hf;simp at h2;omega
theorem z7T {a:yC} {t:Term} (h:t∈a):zcF t.Fs<=zbh a:=by
 induction a with
 | nil=>cases h
 | cons b r ih=>
  rw [zex];rcases qd.1 h with rfl | h
  ·omega
  ·have:=ih h; omega
theorem zVy {l:yD} {f:Fc} (h:f∈l):zom f.At<=zcF l:=by
 induction l with
 | nil=>cases h
 | cons b r ih=>
  rw [zf0];rcases qd.1 h with rfl | h
  ·omega
  ·have:=ih h; omega
theorem zTz {l:yA} {a:yC} (h:a∈l):zbh a<=zm3 l:=by
 induction l with
 | nil=>cases h
 | cons b r ih=>
  rw [zGq];rcases qd.1 h with rfl | h
  ·omega
  ·have:=ih h; omega
theorem zbek {l:yE} {w:Wd} (h:w∈l):zbh w.Ann<=zlq l:=by
 induction l with
 | nil=>cases h
 | cons b r ih=>
  rw [zEk];rcases qd.1 h with rfl | h
  ·omega
  ·have:=ih h; omega
theorem zuk {f:Int} {l:yE} {o:Int} {b:Value} (h:zDv f l o b=true):(0<=f/\f<=3/\5<=o/\o<=10)/\zwu b=true/\∀ w∈l,zwu w.Value=true/\w.Value.Kind=b.Kind:=by
 simp only [zDv,qc,List.all_eq_true,qe] at h;obtain ⟨⟨⟨⟨⟨⟨h1,h2⟩,h3⟩,h4⟩,h5⟩,h6⟩,h7⟩:=h;refine ⟨⟨h1,h2,h3,h4⟩,h5,λw hw=> ?_⟩
 have:=h7 w hw;simp only [zOc,qc,beq_iff_eq] at this;exact this.1
theorem z9F:∀ (m:Nat) (a:yC),zbJ m a=true->zm (zbh a+1) a
 | 0,a,h=>by cases h
 | m+1,a,h=>by
  have hw:=zuc (zKw h);refine ⟨by omega,λt ht=> ?_⟩
  obtain ⟨_,hok⟩:=zxN h ht;obtain ⟨h1,h2⟩:=hw.2.2.2 t ht;refine ⟨by omega,λf hf=> ?_⟩
  have hv:=zdD.1 (zqg hok hf).2;have hn:zom f.At<=zbh a:=Nat.le_trans (zVy hf) (z7T ht);have h3:=(h2 f hf).2;generalize f.At=x at hv hn h3;rw [zGI] at hn;have ih:∀ b,zbJ m b=true->zbh b+1<=zbh a->zm (zbh a) b:=λb hb hl=>(z9F m b hb).mono hl
  cases hv with
  | var r h=>exact ⟨⟨by simp,by simp,by show (ByteArray.mk #[]).size<=_; decide⟩,λa ha=>(by cases ha),λw hw=>(by cases hw)⟩
  | mon b c hb hc _ _ _=>
   simp only at hn;refine ⟨⟨by simp,by simp,by show (ByteArray.mk #[]).size<=_; decide⟩,λy hy=> ?_,λw hw=>(by cases hw)⟩
   have:=zTz hy;simp only at this;simp only [qd,List.not_mem_nil,or_false] at hy;rcases hy with rfl | rfl
   ·exact ih _ hb (by simp at hn; omega)
   ·exact ih _ hc (by simp at hn; omega)
  | del b hb _ _ _=>
   refine ⟨⟨by simp,by simp,by show (ByteArray.mk #[]).size<=_; decide⟩,λy hy=> ?_,λw hw=>(by cases hw)⟩
   have:=zTz hy;simp only at this;simp only [qd,List.not_mem_nil,or_false] at hy;subst hy;exact ih _ hb (by simp at hn; omega)
  | abs b hb _ _=>
   refine ⟨⟨by simp,by simp,by show (ByteArray.mk #[]).size<=_; decide⟩,λy hy=> ?_,λw hw=>(by cases hw)⟩
   have:=zTz hy;simp only at this;simp only [qd,List.not_mem_nil,or_false] at hy;subst hy;exact ih _ hb (by simp at hn; omega)
  | tst fn l o b hl hi hs hf=>
   obtain ⟨_,hb,hit⟩:=zuk hf;refine ⟨⟨by simp,by simp only at h3 ⊢; omega,by have:=zxP hb; simp only; omega⟩,λy hy=>(by cases hy),λw hw=>⟨by have:=zxP (hit w hw).1; omega, ?_⟩⟩
   have:=zbek hw;simp only at this;exact ih _ (hi w hw).1 (by simp at hn; omega)
theorem zeJ {m:Nat} {a:yC} (h:zbJ m a=true):zm 9 a/\zK a<=4096/\a.length<=512:=by
 cases m with
 | zero=>cases h
 | succ m=>
 have hw:=zuc (zKw h);exact ⟨(z9F _ a h).mono (by omega),hw.2.2.1,hw.1⟩
theorem zbb1 {d m m':Nat} {a:yC} (h:zm d a) (hd:d<=100) (h1:d<=m) (h2:d<=m') (hs:zK a<=4611686018427387904):zbJ m a=zbJ m' a:=by
 have e1:=(zRA 1000).1 d m a h (by omega) h1 hd hs
 have e2:=(zRA 1000).1 d m' a h (by omega) h2 hd hs
 rw [e1] at e2;exact (Prod.mk.injEq _ _ _ _ ▸ e2).2
theorem zbeD {m:Nat} {a:yC} (h:zbJ m a=true) (hm:9<=m):zF a=true:=by
 obtain ⟨h1,h2,h3⟩:=zeJ h;rw [<- h]; exact zbb1 h1 (by omega) (by omega) hm (by omega)
theorem zON {m:Nat} {a:yC} (h:zF a=true) (hm:9<=m):zbJ m a=true:=by
 obtain ⟨h1,h2,h3⟩:=zeJ h;rw [<- h]; exact zbb1 h1 (by omega) hm (by omega) (by omega)
theorem VA.imp {V V':yC->Bool} (hV:∀ a,V a=true->V' a=true) {x:At} (h:VA V x):VA V' x:=by
 cases h with
 | var r h=>exact .var r h
 | mon a b ha hb ha0 hb0 h=>exact .mon a b (hV a ha) (hV b hb) ha0 hb0 h
 | del a ha ha0 h h'=>exact .del a (hV a ha) ha0 h h'
 | abs a ha ha0 h=>exact .abs a (hV a ha) ha0 h
 | tst f l o b hl hi hs hf=>exact .tst f l o b hl (λw hw=>⟨hV _ (hi w hw).1,(hi w hw).2⟩) hs hf
def zoO (x:At):Bool:=zd8 zF x
theorem zbjL {m:Nat} (hm:9<=m):zd8 (zbJ m)=zoO:=by
 funext x
 rw [Bool.eq_iff_iff];unfold zoO;rw [zdD,zdD];exact ⟨VA.imp λa h=>zbeD h hm,VA.imp λa h=>zON h hm⟩
theorem z9t (a:yC):zF a=zAb zoO a:=by
 show zAb (zd8 (zbJ 99)) a=_;rw [zbjL (by omega)]
theorem z5T {τ:Type} [Inhabited τ] {l:List τ} {i:Nat} (h:i<l.length):l.set i (l.getD i default)=l:=by
 rw [List.getD_eq_getElem?_getD,List.getElem?_eq_getElem h]; simp
section
variable (g:yC->Bool×yC) (gx:At->Bool×At)
theorem zboN (t8:yC) (t9 t10:Int) (out:yC) (t:Term) (l:yD) (hl:l.length<=1000000) (hg:∀ f∈l,gx f.At=(true,f.At)) (n:Nat) (hn:l.length<n):
  zDG gx n t8 t9 t10 l.length 0 out t l=(true,(t8,t9,t10,out,t,l)):=by
 have:=zdW (W:=zu6 gx) (z:=default) l.length (λi=>((),(),(),t8,t9,t10,(l.length:Int),(i:Int),())) (λ_=>(out,t,l,())) (λ_=>true) default (t8,t9,t10,out,t,l)
  (λi hi H K D=>by
   show (zjS gx t8 t9 t10 l.length i out t l).ev H K D=_;unfold zjS;simp only [At.eta,Wy.ev_i,Wy.ev_k,Wy.ev_h,Wy.ev_bn,Wy.ev_d,tT,hi,hg _ (zr hi)];rw [zN (by omega)]
   have:(l.set i (⟨(l.getD i default).At,(l.getD i default).Exp⟩:Fc))=l:=z5T hi;rw [this])
  (λH K D=>by
   show (zjS gx t8 t9 t10 l.length l.length out t l).ev H K D=_;unfold zjS;simp only [Wy.ev_i,Wy.ev_k,tT,Nat.lt_irrefl]) n hn
 rw [show zek (λ_=>true) l.length 0=true from zdV.2 λ_ _ _=>rfl] at this
 exact this
theorem zboF (a:yC) (hl:a.length<=1000000) (hg:∀ t∈a,t.Fs.length<=1000000/\∀ f∈t.Fs,gx f.At=(true,f.At)) (n:Nat) (hn:a.length<n):
  zDH gx n a a.length 0 []=(true,a):=by
 have hreach:zG=70368744177664:=rfl
 have:=zdW (W:=zvw gx) (z:=default) a.length (λi=>((),a,(a.length:Int),(i:Int),())) (λi=>(a.take i,())) (λ_=>true) default a
  (λi hi H K D=>by
   show (zj3 gx a a.length i (a.take i)).ev H K D=_;unfold zj3 zc7;obtain ⟨h1,h2⟩:=hg _ (zr hi);have hb:decide ((a.getD i default).Fs.length*128<=zG)=true:=by simp only [qe]; omega
   simp only [Wy.ev_i,Wy.ev_k,Wy.ev_h,Wy.ev_bn,Wy.ev_d,tT,hi,hb];rw [zboN gx a a.length i (a.take i) _ _ h1 h2 _ (by omega)]
   have hb2:decide (((a.take i).length+1)*32<=zG)=true:=by simp only [qe,List.length_take]; omega
   simp only [cond_true,List.length_singleton,hb2];rw [zN (by omega),ziL hi])
  (λH K D=>by
   show (zj3 gx a a.length a.length (a.take a.length)).ev H K D=_;unfold zj3;simp only [Wy.ev_i,Wy.ev_k,tT,Nat.lt_irrefl,List.take_length]) n hn
 rw [show zek (λ_=>true) a.length 0=true from zdV.2 λ_ _ _=>rfl] at this
 exact this
end
section
variable (g:yC->Bool×yC)
theorem zboo (l:yA) (hl:l.length<=1000000) (hg:∀ a∈l,g a=(true,a)) (n:Nat) (hn:l.length<n) (x0 x1 x2 x3:Int) (x4:yE) (x5 x6 x7:Int) (x8:ByteArray) (t0 t1 t2 t3 t4 t5 t6:Int) (t7:ByteArray):
  zzC g n l.length 0 x0 x1 x2 x3 x4 x5 x6 x7 x8 t0 t1 t2 t3 t4 t5 t6 t7 l=(true,(x0,x1,x2,x3,x4,x5,x6,x7,x8,t0,t1,t2,t3,t4,t5,t6,t7,l)):=by
 have:=zdW (W:=zoZ g) (z:=default) l.length (λi=>((),(),(l.length:Int),(i:Int),())) (λ_=>((x0,x1,x2,(),x3,x4,x5,x6,x7,x8,()),(t0,t1,t2,(),t3,(),t4,t5,t6,t7,()),l,())) (λ_=>true) default (x0,x1,x2,x3,x4,x5,x6,x7,x8,t0,t1,t2,t3,t4,t5,t6,t7,l)
  (λi hi H K D=>by
   show (zgK g l.length i x0 x1 x2 x3 x4 x5 x6 x7 x8 t0 t1 t2 t3 t4 t5 t6 t7 l).ev H K D=_;unfold zgK;simp only [Wy.ev_i,Wy.ev_k,Wy.ev_h,Wy.ev_bn,Wy.ev_d,tT,hi,hg _ (zr hi)];rw [zN (by omega),z5T hi])
  (λH K D=>by
   show (zgK g l.length l.length x0 x1 x2 x3 x4 x5 x6 x7 x8 t0 t1 t2 t3 t4 t5 t6 t7 l).ev H K D=_;unfold zgK;simp only [Wy.ev_i,Wy.ev_k,tT,Nat.lt_irrefl]) n hn
 rw [show zek (λ_=>true) l.length 0=true from zdV.2 λ_ _ _=>rfl] at this
 exact this
theorem zbon (l:yE) (hl:l.length<=1000000) (hg:∀ a∈l,g a.Ann=(true,a.Ann)) (n:Nat) (hn:l.length<n) (x0 x1 x2 x3 x4 x5 x6:Int) (x7:ByteArray) (t0 t1 t2 t3 t4 t5 t6:Int) (t7:ByteArray) (b2:yA):
  zzJ g n l.length 0 x0 x1 x2 x3 x4 x5 x6 x7 t0 t1 t2 t3 t4 t5 t6 t7 b2 l=(true,(x0,x1,x2,x3,x4,x5,x6,x7,t0,t1,t2,t3,t4,t5,t6,t7,b2,l)):=by
 have:=zdW (W:=zo3 g) (z:=default) l.length (λi=>((),(),(l.length:Int),(i:Int),())) (λ_=>((x0,x1,x2,(),x3,(),x4,x5,x6,x7,()),(t0,t1,t2,(),t3,(),t4,t5,t6,t7,()),b2,l,())) (λ_=>true) default (x0,x1,x2,x3,x4,x5,x6,x7,t0,t1,t2,t3,t4,t5,t6,t7,b2,l)
  (λi hi H K D=>by
   show (zgE g l.length i x0 x1 x2 x3 x4 x5 x6 x7 t0 t1 t2 t3 t4 t5 t6 t7 b2 l).ev H K D=_;unfold zgE;simp only [Wy.ev_i,Wy.ev_k,Wy.ev_h,Wy.ev_bn,Wy.ev_d,tT,hi,hg _ (zr hi)];have:l.set i (⟨(l.getD i default).Value,(l.getD i default).Ann⟩:Wd)=l:=z5T hi;rw [zN (by omega),this])
  (λH K D=>by
   show (zgE g l.length l.length x0 x1 x2 x3 x4 x5 x6 x7 t0 t1 t2 t3 t4 t5 t6 t7 b2 l).ev H K D=_;unfold zgE;simp only [Wy.ev_i,Wy.ev_k,tT,Nat.lt_irrefl]) n hn
 rw [show zek (λ_=>true) l.length 0=true from zdV.2 λ_ _ _=>rfl] at this
 exact this
theorem z8k (x:At) (h1:x.Ag.length<=1000000) (h2:x.Items.length<=1000000) (hg:∀ a∈x.Ag,g a=(true,a)) (hgi:∀ w∈x.Items,g w.Ann=(true,w.Ann)):zja g x=(true,x):=by
 have hreach:zG=70368744177664:=rfl;unfold zja zAK zdY zeE
 have e1:∀ k:Nat,k<=1000->decide (x.Ag.length*k<=zG)=true:=λk hk=>by
  have:=Nat.mul_le_mul h1 hk;simp only [qe]; omega
 have e2:∀ k:Nat,k<=1000->decide (x.Items.length*k<=zG)=true:=λk hk=>by
  have:=Nat.mul_le_mul h2 hk;simp only [qe]; omega
 simp only [Wy.fin_bn,Wy.fin_k,e1 _ (by omega:24<=1000),e2 _ (by omega:56<=1000),Int.ofNat_eq_natCast,cond_true]
 rw [zboo g _ h1 hg _ (by omega)]
 simp only [cond_true,e2 _ (by omega:56<=1000)]
 rw [zbon g _ h2 hgi _ (by omega)]
 simp only [cond_true];cases x; rfl
theorem zbgj (gx:At->Bool×At) (a:yC) (hl:a.length<=1000000) (hg:∀ t∈a,t.Fs.length<=1000000/\∀ f∈t.Fs,gx f.At=(true,f.At)):zmO gx a=(true,a):=by
 unfold zmO zE3;have:=zboF gx a hl hg (a.length+(Int.ofNat a.length).toNat +Int.toNat (0:Int)+(0:Nat)+(1:Nat)) (by omega)
 rw [show Int.ofNat a.length=(a.length:Int) from rfl] at *
 rw [Wy.fin_bn,this]; rfl
end
theorem z9d:∀ n,
  (∀ d a,zm d a->2*d<=n->zmR n a=(true,a))/\
  (∀ d x,zc3 (zm d) x->2*d+1<=n->zmC n x=(true,x))
 | 0=>by
  refine ⟨λd a h hd=> ?_,λd x h hd=>by omega⟩
  have:d=0:=by omega
  subst this; exact h.elim
 | n+1=>by
  obtain ⟨h1,h2⟩:=z9d n;refine ⟨λd a h hd=> ?_,λd x h hd=> ?_⟩
  ·cases d with
   | zero=>exact h.elim
   | succ d=>
    rw [zSx];exact zbgj _ a h.1 λt ht=>⟨(h.2 t ht).1,λf hf=>h2 d _ ((h.2 t ht).2 f hf) (by omega)⟩
  ·rw [zL0];exact z8k _ x h.1.1 h.1.2.1 (λa ha=>h1 d a (h.2.1 a ha) (by omega)) λw hw=>h1 d _ (h.2.2 w hw).2 (by omega)
theorem zK3 {d:Nat} {a:yC} (h:zm d a) (hd:d<=100):zg2 a=(true,a):=(z9d 1000).1 d a h (by omega)
def znT (a:yC):yC×Int:=bif zfB a then (a,0) else ([],6)
theorem zCM {d:Nat} {a:yC} (h:zm d a) (hd:d<=100) (hs:zK a<=4611686018427387904):zeB a=(true,znT a):=by
 unfold zeB zGR znT;simp only [Wy.fin_bn,Wy.fin_i,Wy.fin_k,zbbY h hd hs,zK3 h hd,cond_true];cases zfB a <;>rfl
theorem zBn {d:Nat} {a:yC} (h:zm d a) (hd:d<=100) (hs:zK a<=4611686018427387904):znD a=(true,znT a):=by
 unfold znD z5g znT;simp only [Wy.fin_bn,Wy.fin_i,Wy.fin_k,zbgw h hd hs,cond_true];cases zfB a <;>rfl
def zcu (x:At):yC:=[⟨1,[⟨x,1⟩]⟩]
theorem zK5 (x:At):(zfF x).2=zcu x:=by
 unfold zfF zIh;rw [At.eta]; rfl
theorem zFM (x:At):(znv x).2=zcu x:=by
 unfold znv z0P;rw [At.eta]; rfl
theorem zRx {d:Nat} {x:At} (h:zc3 (zm d) x):zm (d+1) (zcu x):=by
 refine ⟨by simp [zcu],λt ht=> ?_⟩
 simp only [zcu,qh] at ht;subst ht;refine ⟨by simp,λf hf=> ?_⟩
 simp only [qh] at hf;subst hf; exact h
theorem z7p (x:At):zK (zcu x)=2+zfm x:=by
 rw [zcu,zcp,zqd,zcC,ziK];simp only [List.length_singleton]; omega
theorem zbfj (x:At):(zgW x).2=zcu x:=by
 unfold zgW zBo;rw [At.eta]; rfl
theorem zbkh {x y:At} (h:zcu x=zcu y):x=y:=by
 simp only [zcu,qj,and_true] at h;have:=congrArg TO.Fs h;simp only [qj,and_true] at this;exact congrArg FO.At this
theorem zbgl {d:Nat} {x:At} (hx:zc3 (zm d) x) (hd:d<=99) (y:At):zmS x y=(true,decide (x=y)):=by
 unfold zmS zFK;rw [At.eta,At.eta,zbfj,zbfj,Wy.fin_bn,zAi (zRx hx) (by omega),cond_true,Wy.fin_k]
 have:decide (zcu x=zcu y)=decide (x=y):=by
  rw [decide_eq_decide];exact ⟨zbkh,λh=>by rw [h]⟩
 rw [this]
theorem zbot {d:Nat} (s:yD) (f:Fc) (hs:s.length<=1000000) (hf:zc3 (zm d) f.At) (hd:d<=99):zcD s f=(true,s.any λg=>decide (f.Exp<=g.Exp)&&decide (f.At=g.At)):=by
 unfold zcD ziC
 have hw:zdz=zW2 (λ(g:Fc×Unit) x=>zeI x g.1):=by
  funext x y
  unfold zdz zjv zW2 z23;rw [Fc.eta2,Fc.eta2]
 have:zcX s f=IG (λ(g:Fc×Unit) x=>zeI x g.1) (s.length+f.At.Ag.length+f.At.Items.length+(Int.ofNat s.length).toNat +Int.toNat (0:Int)+(1000:Nat)) (f,()) s:=by
  unfold zcX zj7 zjC;rw [hw,Fc.eta2]; rfl
 rw [Fc.eta2]
 exact zlh (this.trans (zNh _ _ _ _ _ (by omega) (λx _=>by
  show zeI x f=_;unfold zeI zzK;rw [At.eta,At.eta];simp only [Wy.fin_i,Wy.fin_bn,Wy.fin_k,zbgl hf hd,cond_true];cases decide (f.Exp<=x.Exp) <;>rfl) (by omega)))
theorem z8K {d:Nat} {s:Term} (hs:zbO (zm d) s.Fs) (hd:d<=99) {t:Term} (ht:t.Fs.length<=1000000):zf8 s t=(true,dvF s.Fs t.Fs):=by
 unfold zf8 zG2
 have h3:zcI s.Fs t=(true,s.Fs.any λf=> !t.Fs.any λg=>decide (f.Exp<=g.Exp)&&decide (f.At=g.At)):=by
  unfold zcI zjc
  have hw:zdK=zW2 (λ(g:Term×Unit) x=>zfO x g.1):=by
   funext x y
   unfold zdK zjZ zW2 z23;rw [Fc.eta2]
  have:zc6 s.Fs t=IG (λ(g:Term×Unit) x=>zfO x g.1) (s.Fs.length+t.Fs.length+(Int.ofNat s.Fs.length).toNat +Int.toNat (0:Int)+(1000:Nat)) (t,()) s.Fs:=by
   unfold zc6 zkn zjV;rw [hw]; rfl
  exact zlh (this.trans (zNh _ _ _ _ _ (by have:=hs.1; omega) (λx hx=>by
   show zfO x t=_;unfold zfO zCQ;rw [Fc.eta2,Wy.fin_bn,zbot _ _ ht (hs.2 x hx) hd,cond_true,Wy.fin_k]) (by omega)))
 rw [Wy.fin_bn,h3,cond_true,Wy.fin_k];unfold dvF;simp [List.all_eq_not_any_not]
def txV (v:Value):List UInt8:=if v.Kind=0 then ziG v.Int else if v.Kind=1 then 39::(v.Text.data.toList.flatMap esc++[39]) else if v.Int=1 then [84,82,85,69] else [70,65,76,83,69]
def txR (r:RowID):List UInt8:=116::(ziG r.Table++46::ziG r.Seq)
def fnT (f:Int):List UInt8:=if f=0 then [67,79,85,78,84] else if f=1 then [83,85,77] else if f=2 then [77,73,78] else [77,65,88]
def opT (o:Int):List UInt8:=if o=5 then [61] else if o=6 then [60,62] else if o=7 then [60] else if o=8 then [60,61] else if o=9 then [62] else [62,61]
def zWS (ts:List (List UInt8)):List UInt8:=if ts=[] then [48] else zeT ts [32,43,32]
def z0X (c:Int) (fs:List (List UInt8)):List UInt8:=if fs=[] then ziG c else if c=1 then zeT fs [42] else ziG c++42::zeT fs [42]
def zRV (x:List UInt8) (e:Int):List UInt8:=if e=1 then x else x++94::ziG e
def zdw (k:Int) (r:RowID) (xs:List (List UInt8)) (f:Int) (is:List (List UInt8)) (o:Int) (b:Value):List UInt8:=
 if k=0 then txR r
 else if k=1 then [109,111,110,117,115,91]++(xs.getD 0 []++([44,32]++(xs.getD 1 []++[93])))
 else if k=2 then [100,101,108,116,97,91]++(xs.getD 0 []++[93])
 else if k=3 then [97,98,115,101,110,116,91]++(xs.getD 0 []++[93])
 else [116,101,115,116,91]++(fnT f++([123]++(zeT is [59,32]++([125,32]++(opT o++([32]++(txV b++[93])))))))
mutual
def txA:At->List UInt8
 | ⟨k,r,a,f,i,o,b⟩=>zdw k r (zbas a) f (zbaE i) o b
def zPo:yD->List (List UInt8)
 | []=>[]
 | ⟨x,e⟩::l=>zRV (txA x) e::zPo l
def zV1:yC->List (List UInt8)
 | []=>[]
 | ⟨c,fs⟩::l=>z0X c (zPo fs)::zV1 l
def zbas:yA->List (List UInt8)
 | []=>[]
 | a::l=>zWS (zV1 a)::zbas l
def zbaE:yE->List (List UInt8)
 | []=>[]
 | ⟨v,a⟩::l=>(txV v++([58,32]++zWS (zV1 a)))::zbaE l
end
def txF (f:Fc):List UInt8:=zRV (txA f.At) f.Exp
def txT (t:Term):List UInt8:=z0X t.Cf (zPo t.Fs)
def txN (a:yC):List UInt8:=zWS (zV1 a)
def txI (w:Wd):List UInt8:=txV w.Value++([58,32]++txN w.Ann)
theorem zCg:∀ l,zPo l=l.map txF
 | []=>by rw [zPo]; rfl
 | x::r=>by rw [zPo,zCg r]; rfl
theorem zXo:∀ l,zV1 l=l.map txT
 | []=>by rw [zV1]; rfl
 | x::r=>by rw [zV1,zXo r]; rfl
theorem zm8:∀ l,zbas l=l.map txN
 | []=>by rw [zbas]; rfl
 | x::r=>by rw [zbas,zm8 r]; rfl
theorem zO3:∀ l,zbaE l=l.map txI
 | []=>by rw [zbaE]; rfl
 | x::r=>by rw [zbaE,zO3 r]; rfl
theorem zbnE (x:At):txA x=zdw x.Kind x.Row (zbas x.Ag) x.Func (zbaE x.Items) x.Op x.Bd:=by cases x; rw [txA]
def txL (l:yD):List UInt8:=zeT (zPo l) [42]
theorem zVE {v:Value} (h:zwu v=true):(txV v).length<=512:=by
 have ht:=zxP h;unfold txV;have h1:=zqw v.Int;have h2:=zbaq v.Text.data.toList;have h3:v.Text.data.toList.length=v.Text.size:=by rw [Array.length_toList]; rfl
 split
 ·omega
 ·split
  ·simp only [qf,qg,List.length_nil]; omega
  ·split <;>simp
theorem zblx (r:RowID):(txR r).length<=44:=by
 have h1:=zqw r.Table;have h2:=zqw r.Seq;simp only [txR,qf,qg]; omega
theorem zbg1 (f:Int):(fnT f).length<=5:=by unfold fnT; (repeat' split) <;>simp
theorem zbgW (f:Int):(opT f).length<=2:=by unfold opT; (repeat' split) <;>simp
theorem zXM {α:Type} (t:α->List UInt8) (m:α->Nat) (s:List UInt8):∀ l:List α,(∀ x∈l,(t x).length+s.length<=m x)->(zeT (l.map t) s).length<=(l.map m).sum
 | [],_=>by simp [zeT]
 | [x],h=>by
  have:=h x (by simp)
  simp only [List.map,zeT,List.sum_cons,List.sum_nil]; omega
 | x::y::r,h=>by
  have h1:=h x (by simp)
  have h2:=zXM t m s (y::r) λz hz=>h z (List.mem_cons_of_mem _ hz)
  simp only [List.map,zeT,qg,List.sum_cons] at h2 ⊢;omega
theorem z5m:∀ l:yD,(l.map λf=>1000+1000*zfm f.At).sum=1000*(l.length+zby l)
 | []=>by rw [ziK]; rfl
 | f::r=>by rw [List.map_cons,List.sum_cons,z5m r,zcC,qf]; omega
theorem zbcb:∀ l:yC,(l.map λt=>1000+1000*(t.Fs.length+zby t.Fs)).sum=1000*zK l
 | []=>by rw [zqd]; rfl
 | f::r=>by rw [List.map_cons,List.sum_cons,zbcb r,zcp]; omega
theorem zbbJ:∀ l:yE,(l.map λt=>1000+1000*zK t.Ann).sum=1000*zdo l
 | []=>by rw [zfQ]; rfl
 | f::r=>by rw [List.map_cons,List.sum_cons,zbbJ r,zin]; omega
theorem zbml {x:At} {e:Int} (h:(txA x).length<=700+1000*zfm x):(zRV (txA x) e).length+1<=1000+1000*zfm x:=by
 have:=zqw e;unfold zRV;split
 ·omega
 ·simp only [qg,qf]; omega
theorem zbdQ {l:yD} (h:∀ f∈l,(txA f.At).length<=700+1000*zfm f.At):(txL l).length<=1000*(l.length+zby l):=by
 unfold txL;rw [zCg, <- z5m];exact zXM txF (λf=>1000+1000*zfm f.At) [42] l λf hf=>zbml (h f hf)
theorem z2S:∀ (m:Nat),(∀ a,zbJ m a=true->(txN a).length<=1+1000*zK a)/\(∀ x,zd8 (zbJ m) x=true->(txA x).length<=700+1000*zfm x)
 | m=>by
  have hA:∀ (V:yC->Bool),(∀ a,V a=true->(txN a).length<=1+1000*zK a)->∀ x,zd8 V x=true->(txA x).length<=700+1000*zfm x:=by
   intro V hV x hx;rw [zhu];cases zdD.1 hx with
   | var r h=>
    rw [txA]; have:=zblx r;simp only [zdw,if_true]; omega
   | mon a b ha hb _ _ _=>
    have h1:=hV a ha; have h2:=hV b hb;rw [txA,zm8];simp only [zdw,zfa,zgO,zfQ,List.map,List.getD_cons_zero,List.getD_cons_succ,qg,qf,List.length_nil];simp only [show ¬ (1:Int)=0 by decide,if_false,if_true,qg,qf,List.length_nil]
    omega
   | del a ha _ _ _=>
    have h1:=hV a ha;rw [txA,zm8];simp only [zdw,zfa,zgO,zfQ,List.map,List.getD_cons_zero];simp only [show ¬ (2:Int)=0 by decide,show ¬ (2:Int)=1 by decide,if_false,if_true,qg,qf,List.length_nil]
    omega
   | abs a ha _ _=>
    have h1:=hV a ha;rw [txA,zm8];simp only [zdw,zfa,zgO,zfQ,List.map,List.getD_cons_zero];simp only [show ¬ (3:Int)=0 by decide,show ¬ (3:Int)=1 by decide,show ¬ (3:Int)=2 by decide,if_false,if_true,qg,qf,List.length_nil]
    omega
   | tst f l o b hl hi hs hf=>
    obtain ⟨_,hb,hit⟩:=zuk hf;have h1:=zbg1 f; have h2:=zbgW o; have h3:=zVE hb
    have h4:(zeT (l.map txI) [59,32]).length<=1000*zdo l:=by
     rw [<- zbbJ];refine zXM txI (λw=>1000+1000*zK w.Ann) [59,32] l λw hw=> ?_
     have h5:=hV _ (hi w hw).1; have h6:=zVE (hit w hw).1;simp only [txI,qg,qf,List.length_nil]; omega
    rw [txA,zO3];simp only [zdw,zgO];simp only [show ¬ (4:Int)=0 by decide,show ¬ (4:Int)=1 by decide,show ¬ (4:Int)=2 by decide,show ¬ (4:Int)=3 by decide,if_false,qg,qf,List.length_nil]
    omega
  have hN:∀ a,zbJ m a=true->(txN a).length<=1+1000*zK a:=by
   induction m with
   | zero=>intro a h; cases h
   | succ m ih=>
    intro a h;unfold txN zWS;split
    ·simp
    ·rw [zXo, <- zbcb];refine Nat.le_trans (zXM txT (λt=>1000+1000*(t.Fs.length+zby t.Fs)) [32,43,32] a λt ht=> ?_) (Nat.le_add_left _ _)
     have hok:=(zxN h ht).2;have h5:=zbdQ (l:=t.Fs) λf hf=>hA _ ih _ (zqg hok hf).2
     have h6:=zqw t.Cf;have e:(zeT (zPo t.Fs) [42]).length=(txL t.Fs).length:=rfl;unfold txT z0X;simp only [qf,List.length_nil];split
     ·omega
     ·split
      ·omega
      ·simp only [qg,qf]; omega
  exact ⟨hN,hA _ hN⟩
theorem zm7 {n:Int} (h:wf3 n): -9223372036854775808<=n/\n<=9223372036854775807:=by
 have h:(Lit.int .i64 n).wf=true:=h;have:IntKind.i64.min<=n/\n<=IntKind.i64.max:=by simpa [Lit.wf] using h
 exact ⟨this.1,this.2⟩
def rng (n:Int):Prop:= -9223372036854775808<=n/\n<=9223372036854775807
instance (n:Int):Decidable (rng n):=by unfold rng; infer_instance
theorem z5H {n:Int} (h:rng n):strconv_Itoa n=(true,bs (ziG n)):=by
 unfold strconv_Itoa zXB zRn;rw [decide_eq_true h.1,decide_eq_true h.2]; rfl
theorem zbgs {n:Int} (h:rng n):zjs n 10=(true,bs (ziG n)):=by
 unfold zjs zyn zRn;rw [decide_eq_true h.1,decide_eq_true h.2]; rfl
theorem okS (n m:Nat) (h:n+m<=9223372036854775807):decide (n+m<=9223372036854775807)=true:=decide_eq_true h
theorem zbkp {r:RowID} (h:zCH r=true) (h1:rng r.Table) (h2:rng r.Seq):zzP r=(true,bs (txR r)):=by
 unfold zzP zSa txR;have l1:=zqw r.Table;have l2:=zqw r.Seq;rw [show ByteArray.mk #[(116:UInt8)]=bs [116] from rfl,show ByteArray.mk #[(46:UInt8)]=bs [46] from rfl]
 simp only [Wy.fin_bn,Wy.fin_i,Wy.fin_k,zGj,h,z5H h1,z5H h2,cond_true,cond_false,Bool.not_true,zGM,zwk,qg,qf,List.length_nil];rw [okS _ _ (by omega),okS _ _ (by omega),okS _ _ (by omega)]
 simp
theorem zbd4 {v:Value} (h:zwu v=true) (hr:rng v.Int):zxb v=(true,bs (txV v)):=by
 unfold zxb zUw txV strings_ReplaceAll;have ht:=zxP h;rw [show ByteArray.mk #[(39:UInt8)]=bs [39] from rfl,show ByteArray.mk #[(39:UInt8),(39:UInt8)]=bs [39,39] from rfl]
 simp only [Wy.fin_bn,Wy.fin_i,Wy.fin_k,zJj,h,zbgs hr,zbah _ ht,cond_true,cond_false,Bool.not_true,zGM,zwk,qg,qf,List.length_nil];have h2:=zbaq v.Text.data.toList;have h3:v.Text.data.toList.length=v.Text.size:=by rw [Array.length_toList]; rfl
 rw [okS _ _ (by omega),okS _ _ (by omega)]
 by_cases k0:v.Kind=0
 ·simp [k0]
 by_cases k1:v.Kind=1
 ·simp [k1]
 simp only [zhe,k0,k1,decide_false,cond_false,if_false];by_cases i1:v.Int=1
 ·simp only [i1,decide_true,cond_true,if_true]; rfl
 ·simp only [i1,decide_false,cond_false,if_false]; rfl
theorem zbma {f:Int} (h0:0<=f) (h3:f<=3):(decide ((0:Int)<=f)&&decide (f<Int.ofNat zce.snd.length))=true/\zce.snd.getD f.toNat default=bs (fnT f):=by
 have hc:f=0\/f=1\/f=2\/f=3:=by omega
 rcases hc with rfl | rfl | rfl | rfl <;>exact ⟨rfl,rfl⟩
theorem zbmg {o:Int} (h0:5<=o) (h3:o<=10):(decide ((0:Int)<=IntKind.i64.wrap (o - 5))&&decide (IntKind.i64.wrap (o - 5)<Int.ofNat zdQ.snd.length))=true/\zdQ.snd.getD (IntKind.i64.wrap (o - 5)).toNat default=bs (opT o):=by
 have hc:o=5\/o=6\/o=7\/o=8\/o=9\/o=10:=by omega
 rcases hc with rfl | rfl | rfl | rfl | rfl | rfl <;>exact ⟨rfl,rfl⟩
theorem z48 {m:Nat} {x:At} (h:zd8 (zbJ m) x=true) (hi:x.Items.length<=1024):zfm x<=4195328:=by
 rw [zhu];cases zdD.1 h with
 | var r h=>rw [zgO,zfQ]; omega
 | mon a b ha hb _ _ _=>
  have h1:=(zeJ ha).2.1; have h2:=(zeJ hb).2.1;simp only [zfa,zgO,zfQ]; omega
 | del a ha _ _ _=>
  have h1:=(zeJ ha).2.1;simp only [zfa,zgO,zfQ]; omega
 | abs a ha _ _=>
  have h1:=(zeJ ha).2.1;simp only [zfa,zgO,zfQ]; omega
 | tst f l o b hl hv hs hf=>
  have h1:∀ l:yE,(∀ w∈l,zK w.Ann<=4096)->zdo l<=l.length*4097:=λl=>by
   induction l with
   | nil=>intro _; rw [zfQ]; omega
   | cons w r ih=>
    intro h;have:=h w (by simp)
    have:=ih λw hw=>h w (by simp [hw])
    rw [zin,qf,Nat.add_mul]; omega
  have:=h1 l λw hw=>(zeJ (hv w hw).1).2.1
  have:=Nat.mul_le_mul hi (Nat.le_refl 4097);simp only [zgO] at this ⊢; omega
section
variable (gA:At->Bool×ByteArray) (gF:yD->Bool×ByteArray) (gT:yC->Bool×ByteArray)
theorem zbmV (l:yD) (hl:l.length<=1000) (hg:∀ f∈l,gA f.At=(true,bs (txA f.At))/\(txA f.At).length<=4200000000/\rng f.Exp):zgI gA l=(true,bs (txL l)):=by
 have hreach:zG=70368744177664:=rfl;unfold zgI zxc
 have:=zdW (W:=zme gA) (z:=default) l.length (λi=>((),l,(l.length:Int),(i:Int),())) (λi=>((l.take i).map λf=>bs (txF f),())) (λ_=>true) default (l.map λf=>bs (txF f))
  (λi hi H K D=>by
   show (zfs gA l l.length i ((l.take i).map λf=>bs (txF f))).ev H K D=_
   unfold zfs;obtain ⟨h1,h2,h3⟩:=hg _ (zr hi);have l1:=zqw (l.getD i default).Exp;rw [show ByteArray.mk #[(94:UInt8)]=bs [94] from rfl]
   simp only [At.eta,Wy.ev_i,Wy.ev_k,Wy.ev_h,Wy.ev_bn,Wy.ev_d,tT,hi,h1,z5H h3,zGM,zwk,qg,qf,List.length_nil];rw [okS _ _ (by omega),okS _ _ (by omega),zN (by omega),ziL hi,List.map_append]
   have hb:decide ((((l.take i).map λf=>bs (txF f)).length+1)*16<=zG)=true:=by simp only [qe,List.length_map,List.length_take]; omega
   generalize ((l.take i).map λf=>bs (txF f))=out at hb ⊢
   have hb':decide ((out.length+(0+1))*16<=zG)=true:=hb;simp only [hb,hb',cond_true,List.map_cons,List.map_nil,txF,zRV,zAg];by_cases he:(l.getD i default).Exp=1
   ·simp only [he,decide_true,Bool.not_true,cond_false,if_true]
   ·simp only [he,decide_false,Bool.not_false,cond_true,if_false,List.singleton_append])
  (λH K D=>by
   show (zfs gA l l.length l.length ((l.take l.length).map λf=>bs (txF f))).ev H K D=_
   unfold zfs;simp only [Wy.ev_i,Wy.ev_k,tT,Nat.lt_irrefl,List.take_length]) (l.length+(Int.ofNat l.length).toNat +Int.toNat (0:Int)+(0:Nat)+(1:Nat)) (by omega)
 rw [show zek (λ_=>true) l.length 0=true from zdV.2 λ_ _ _=>rfl] at this
 have e:zvI gA (l.length+(Int.ofNat l.length).toNat +Int.toNat (0:Int)+(0:Nat)+(1:Nat)) l (Int.ofNat l.length) (0:Int) []=(true,(l.map txF).map bs):=by rw [List.map_map]; exact this
 have hlen:(zeT (l.map txF) [42]).length<=140737488355328:=by
  refine Nat.le_trans (z0V (B:=4200001000) (l.map txF) [42] λx hx=> ?_) (by
   rw [List.length_map]; have:=Nat.mul_le_mul hl (Nat.le_refl 4200001000); omega)
  obtain ⟨f,hf,rfl⟩:=List.mem_map.1 hx;have:=(hg f hf).2.1;have:=zqw f.Exp;unfold txF zRV;split
  ·simp only [qf,List.length_nil]; omega
  ·simp only [qg,qf,List.length_nil]; omega
 rw [Wy.fin_bn,e,show ByteArray.mk #[(42:UInt8)]=bs [42] from rfl]
 unfold strings_Join;simp only [cond_true,Wy.fin_bn,Wy.fin_k,z6b _ _ (by rw [List.length_map]; omega) hlen]
 unfold txL;rw [zCg]
theorem zbng (a:yC) (hl:a.length<=1000) (hlen:(txN a).length<=140737488355328) (hg:∀ t∈a,gF t.Fs=(true,bs (txL t.Fs))/\(txL t.Fs).length<=4200000000/\rng t.Cf):zpx gF a=(true,bs (txN a)):=by
 have hreach:zG=70368744177664:=rfl;unfold zpx zHW;by_cases h0:a=[]
 ·subst h0;have e:txN []=[48]:=by unfold txN; rw [zV1]; rfl
  rw [e]; rfl
 have hne:(Int.ofNat a.length==(0:Int))=false:=by
  rw [beq_eq_false_iff_ne]; intro e;have:(a.length:Int)=0:=e;exact h0 (List.length_eq_zero_iff.1 (by omega))
 have:=zdW (W:=zyO gF) (z:=default) a.length (λi=>((),a,(a.length:Int),(i:Int),())) (λi=>((a.take i).map λf=>bs (txT f),())) (λ_=>true) default (a.map λf=>bs (txT f))
  (λi hi H K D=>by
   show (zlN gF a a.length i ((a.take i).map λf=>bs (txT f))).ev H K D=_
   unfold zlN;obtain ⟨h1,h2,h3⟩:=hg _ (zr hi);have l1:=zqw (a.getD i default).Cf;rw [show ByteArray.mk #[(42:UInt8)]=bs [42] from rfl]
   have hL:decide ((i:Int)<(a.length:Int))=true:=by simp [hi]
   have hL':decide ((i:Int)<Int.ofNat a.length)=true:=hL;simp only [Wy.ev_i,Wy.ev_k,Wy.ev_h,Wy.ev_bn,Wy.ev_d,hL,hL',zfq,Bool.and_self,cond_true,Int.toNat_natCast,h1,zbgs h3,zGM,zwk,qg,qf,List.length_nil,show (Int.ofNat (a.getD i default).Fs.length==(0:Int))=((a.getD i default).Fs.length==0) from zyj _ 0]
   rw [okS _ _ (by omega),okS _ _ (by omega),zN (by omega),ziL hi,List.map_append]
   have hb:decide ((((a.take i).map λf=>bs (txT f)).length+1)*16<=zG)=true:=by simp only [qe,List.length_map,List.length_take]; omega
   generalize ((a.take i).map λf=>bs (txT f))=out at hb ⊢
   have hb':decide ((out.length+(0+1))*16<=zG)=true:=hb;simp only [hb,hb',cond_true,List.map_cons,List.map_nil,txT,z0X,zhe]
   have e0:(zPo (a.getD i default).Fs=[])↔(a.getD i default).Fs.length=0:=by
    rw [zCg,List.map_eq_nil_iff,List.length_eq_zero_iff]
   by_cases hf:(a.getD i default).Fs.length=0
   ·rw [if_pos (e0.2 hf),hf]; rfl
   ·rw [if_neg (λe=>hf (e0.1 e)),z5Y,decide_eq_false hf]
    by_cases he:(a.getD i default).Cf=1
    ·simp only [he,decide_true,cond_true,cond_false,if_true,txL]
    ·simp only [he,decide_false,cond_false,if_false,txL,List.append_assoc,List.singleton_append])
  (λH K D=>by
   show (zlN gF a a.length a.length ((a.take a.length).map λf=>bs (txT f))).ev H K D=_
   unfold zlN;simp only [Wy.ev_i,Wy.ev_k,tT,Nat.lt_irrefl,List.take_length]) (a.length+(Int.ofNat a.length).toNat +Int.toNat (0:Int)+(0:Nat)+(1:Nat)) (by omega)
 rw [show zek (λ_=>true) a.length 0=true from zdV.2 λ_ _ _=>rfl] at this
 have e:zGE gF (a.length+(Int.ofNat a.length).toNat +Int.toNat (0:Int)+(0:Nat)+(1:Nat)) a (Int.ofNat a.length) (0:Int) []=(true,(a.map txT).map bs):=by rw [List.map_map]; exact this
 have ex:txN a=zeT (a.map txT) [32,43,32]:=by
  unfold txN zWS;rw [zXo,if_neg (by simpa using h0)]
 rw [ex] at hlen ⊢;rw [Wy.fin_i,hne,cond_false,Wy.fin_bn,e,show ByteArray.mk #[(32:UInt8),(43:UInt8),(32:UInt8)]=bs [32,43,32] from rfl]
 unfold strings_Join;simp only [cond_true,Wy.fin_bn,Wy.fin_k,z6b _ _ (by rw [List.length_map]; omega) hlen]
theorem zbmQ {V:yC->Bool} (x:At) (hx:zd8 V x=true) (hw:zf9 x) (hi:x.Items.length<=1024) (hg:∀ a,(a∈x.Ag\/∃ w∈x.Items,a=w.Ann)->gT a=(true,bs (txN a))/\(txN a).length<=4200000000):zi7 gT x=(true,bs (txA x)):=by
 have hreach:zG=70368744177664:=rfl;have W:=znt hw;unfold zi7 zAN;rw [zbnE];cases zdD.1 hx with
 | var r h=>
  have hr:=W.2.2.2.2.1;simp only [Wy.fin_bn,Wy.fin_i,Wy.fin_k,zbkp h (zm7 hr.1) (zm7 hr.2)];simp [zdw]
 | mon a b ha hb _ _ _=>
  obtain ⟨g1,l1⟩:=hg a (.inl (by simp))
  obtain ⟨g2,l2⟩:=hg b (.inl (by simp))
  rw [zm8];simp only [List.map,zdw,List.getD_cons_zero,List.getD_cons_succ,show ¬ (1:Int)=0 by decide,if_false,if_true]
  rw [show ByteArray.mk #[(109:UInt8),(111:UInt8),(110:UInt8),(117:UInt8),(115:UInt8),(91:UInt8)]=bs [109,111,110,117,115,91] from rfl,show ByteArray.mk #[(44:UInt8),(32:UInt8)]=bs [44,32] from rfl,show ByteArray.mk #[(93:UInt8)]=bs [93] from rfl]
  simp only [cond_true,cond_false,Wy.fin_i,Wy.fin_bn,Wy.fin_k,show ((1:Int)==0)=false from rfl,show ((1:Int)==1)=true from rfl,show (decide ((0:Int)<=0)&&decide ((0:Int)<Int.ofNat [a,b].length))=true from rfl,show (decide ((0:Int)<=1)&&decide ((1:Int)<Int.ofNat [a,b].length))=true from rfl,show [a,b].getD (Int.toNat 0) default=a from rfl,show [a,b].getD (Int.toNat 1) default=b from rfl,g1,g2,zGM,zwk,List.length_append,List.length_cons,List.length_nil]
  rw [okS _ _ (by omega),okS _ _ (by omega),okS _ _ (by omega),okS _ _ (by omega)]
  simp
 | del a ha _ _ _=>
  obtain ⟨g1,l1⟩:=hg a (.inl (by simp))
  rw [zm8];simp only [List.map,zdw,List.getD_cons_zero,show ¬ (2:Int)=0 by decide,show ¬ (2:Int)=1 by decide,if_false,if_true]
  rw [show ByteArray.mk #[(100:UInt8),(101:UInt8),(108:UInt8),(116:UInt8),(97:UInt8),(91:UInt8)]=bs [100,101,108,116,97,91] from rfl,show ByteArray.mk #[(93:UInt8)]=bs [93] from rfl]
  simp only [cond_true,cond_false,Wy.fin_i,Wy.fin_bn,Wy.fin_k,show ((2:Int)==0)=false from rfl,show ((2:Int)==1)=false from rfl,show ((2:Int)==2)=true from rfl,show (decide ((0:Int)<=0)&&decide ((0:Int)<Int.ofNat [a].length))=true from rfl,show [a].getD (Int.toNat 0) default=a from rfl,g1,zGM,zwk,List.length_append,List.length_cons,List.length_nil]
  rw [okS _ _ (by omega),okS _ _ (by omega)]
  simp
 | abs a ha _ _=>
  obtain ⟨g1,l1⟩:=hg a (.inl (by simp))
  rw [zm8];simp only [List.map,zdw,List.getD_cons_zero,show ¬ (3:Int)=0 by decide,show ¬ (3:Int)=1 by decide,show ¬ (3:Int)=2 by decide,if_false,if_true]
  rw [show ByteArray.mk #[(97:UInt8),(98:UInt8),(115:UInt8),(101:UInt8),(110:UInt8),(116:UInt8),(91:UInt8)]=bs [97,98,115,101,110,116,91] from rfl,show ByteArray.mk #[(93:UInt8)]=bs [93] from rfl]
  simp only [cond_true,cond_false,Wy.fin_i,Wy.fin_bn,Wy.fin_k,show ((3:Int)==0)=false from rfl,show ((3:Int)==1)=false from rfl,show ((3:Int)==2)=false from rfl,show ((3:Int)==3)=true from rfl,show (decide ((0:Int)<=0)&&decide ((0:Int)<Int.ofNat [a].length))=true from rfl,show [a].getD (Int.toNat 0) default=a from rfl,g1,zGM,zwk,List.length_append,List.length_cons,List.length_nil]
  rw [okS _ _ (by omega),okS _ _ (by omega)]
  simp
 | tst f l o b hl hv hs hf=>
  obtain ⟨⟨f0,f3,o5,o10⟩,hb,hit⟩:=zuk hf;have hwl:=zfX W.2.1.1;have hwb:rng b.Int:=zm7 W.2.2.1.2.1
  have:=zdW (W:=zn0 gT) (z:=default) l.length (λi=>((),(),l,(l.length:Int),(i:Int),())) (λi=>((⟨4,⟨0,0⟩,[],f,l,o,b⟩:At),(l.take i).map λw=>bs (txI w),())) (λ_=>true) default ((⟨4,⟨0,0⟩,[],f,l,o,b⟩:At),l.map λw=>bs (txI w))
   (λi hi' H K D=>by
    show (zgb gT l l.length i (⟨4,⟨0,0⟩,[],f,l,o,b⟩:At) ((l.take i).map λw=>bs (txI w))).ev H K D=_
    unfold zgb;have hm:=zr hi';obtain ⟨g1,l1⟩:=hg _ (.inr ⟨_,hm,rfl⟩);have l2:=zVE (hit _ hm).1;rw [show ByteArray.mk #[(58:UInt8),(32:UInt8)]=bs [58,32] from rfl]
    simp only [Wy.ev_i,Wy.ev_k,Wy.ev_h,Wy.ev_bn,Wy.ev_d,tT,hi',zbd4 (hit _ hm).1 (zm7 (hwl _ hm).1.2.1),g1,zGM,zwk,qg,qf,List.length_nil];rw [okS _ _ (by omega),okS _ _ (by omega),zN (by simp only at hi; omega),ziL hi',List.map_append]
    have hb:decide ((((l.take i).map λw=>bs (txI w)).length+1)*16<=zG)=true:=by simp only at hi; simp only [qe,List.length_map,List.length_take]; omega
    generalize ((l.take i).map λw=>bs (txI w))=out at hb ⊢
    have hb':decide ((out.length+(0+1))*16<=zG)=true:=hb;simp only [hb,hb',cond_true,List.map_cons,List.map_nil,txI,List.append_assoc])
   (λH K D=>by
    show (zgb gT l l.length l.length (⟨4,⟨0,0⟩,[],f,l,o,b⟩:At) ((l.take l.length).map λw=>bs (txI w))).ev H K D=_
    unfold zgb;simp only [Wy.ev_i,Wy.ev_k,tT,Nat.lt_irrefl,List.take_length]) (l.length+(Int.ofNat l.length).toNat +Int.toNat (0:Int)+([]:yA).length+l.length+(0:Nat)+(1:Nat)) (by omega)
  rw [show zek (λ_=>true) l.length 0=true from zdV.2 λ_ _ _=>rfl] at this
  have e:zxQ gT (l.length+(Int.ofNat l.length).toNat +Int.toNat (0:Int)+([]:yA).length+l.length+(0:Nat)+(1:Nat)) l (Int.ofNat l.length) (0:Int) (⟨4,⟨0,0⟩,[],f,l,o,b⟩:At) []=(true,((⟨4,⟨0,0⟩,[],f,l,o,b⟩:At),(l.map txI).map bs)):=by rw [List.map_map]; exact this
  simp only at hi
  have hlen:(zeT (l.map txI) [59,32]).length<=5000000000000:=by
   refine Nat.le_trans (z0V (B:=4200001000) (l.map txI) [59,32] λy hy=> ?_) (by
    rw [List.length_map]; have:=Nat.mul_le_mul hi (Nat.le_refl 4200001000); omega)
   obtain ⟨w,hw,rfl⟩:=List.mem_map.1 hy;have h1:=(hg _ (.inr ⟨w,hw,rfl⟩)).2;have h2:=zVE (hit w hw).1;simp only [txI,qg,qf,List.length_nil]; omega
  have l3:=zbg1 f;have l4:=zbgW o;have l5:=zVE hb;rw [zO3];simp only [zdw,show ¬ (4:Int)=0 by decide,show ¬ (4:Int)=1 by decide,show ¬ (4:Int)=2 by decide,show ¬ (4:Int)=3 by decide,if_false]
  rw [show ByteArray.mk #[(116:UInt8),(101:UInt8),(115:UInt8),(116:UInt8),(91:UInt8)]=bs [116,101,115,116,91] from rfl,show ByteArray.mk #[(123:UInt8)]=bs [123] from rfl,show ByteArray.mk #[(125:UInt8),(32:UInt8)]=bs [125,32] from rfl,show ByteArray.mk #[(59:UInt8),(32:UInt8)]=bs [59,32] from rfl,show ByteArray.mk #[(32:UInt8)]=bs [32] from rfl,show ByteArray.mk #[(93:UInt8)]=bs [93] from rfl]
  simp only [Wy.fin_i,show ((4:Int)==0)=false from rfl,show ((4:Int)==1)=false from rfl,show ((4:Int)==2)=false from rfl,show ((4:Int)==3)=false from rfl,cond_false]
  unfold strings_Join;obtain ⟨fb,ft⟩:=zbma f0 f3;obtain ⟨ob,ot⟩:=zbmg o5 o10;rw [e,z28];simp only [Wy.fin_i,Wy.fin_k,Wy.fin_bn,fb,ft,ob,ot,z6b _ _ (show (l.map txI).length<=140737488355328 by rw [List.length_map]; omega) (show (zeT (l.map txI) [59,32]).length<=140737488355328 by omega),zbd4 hb hwb,cond_true,zGM,zwk,List.length_append,List.length_cons,List.length_nil]
  rw [okS _ _ (by omega),okS _ _ (by omega),okS _ _ (by omega),okS _ _ (by omega),okS _ _ (by omega),okS _ _ (by omega),okS _ _ (by omega),okS _ _ (by omega)]
  simp
end
theorem zbd7:∀ n,
  (∀ m a,zbJ m a=true->zgo a->3*m<=n->zv7 n a=(true,bs (txN a)))/\
  (∀ m x,zd8 (zbJ m) x=true->zf9 x->x.Items.length<=1024->3*m+1<=n->zmx n x=(true,bs (txA x)))/\
  (∀ m (l:yD),l.length<=1000->(∀ f∈l,zd8 (zbJ m) f.At=true/\zf9 f.At/\f.At.Items.length<=1024/\rng f.Exp)->3*m+2<=n->zgH n l=(true,bs (txL l)))
 | 0=>by
  refine ⟨?_, ?_, ?_⟩
  ·intro m a h _ hm; have:m=0:=by omega
   subst this; cases h
  all_goals (intros; omega)
 | n+1=>by
  obtain ⟨h1,h2,h3⟩:=zbd7 n;refine ⟨?_, ?_, ?_⟩
  ·intro m a h hw hm;cases m with
   | zero=>cases h
   | succ m=>
    have hl:=zuc (zKw h);have hlen:=(z2S (m+1)).1 a h;rw [zXx];refine zbng _ a (by omega) (by omega) λt ht=> ?_
    obtain ⟨⟨c1,c2⟩,hok⟩:=zxN h ht;obtain ⟨q1,q2⟩:=hl.2.2.2 t ht;have hwt:=zl7 (zux (zqr hw t ht)).2.1;refine ⟨h3 m t.Fs (by omega) (λf hf=> ?_) (by omega), ?_,by constructor <;>omega⟩
    ·obtain ⟨⟨e1,_⟩,hv⟩:=zqg hok hf;exact ⟨hv,(znM (hwt f hf)).1,(q2 f hf).2,by have:=(q2 f hf).1; constructor <;>omega⟩
    ·refine Nat.le_trans (zbdQ λf hf=>(z2S m).2 _ (zqg hok hf).2) ?_
     have hs:t.Fs.length+zby t.Fs<=zK a:=by
      clear hok q1 q2 hwt hw h hlen hl;induction a with
      | nil=>cases ht
      | cons b r ih=>
       rw [zcp];rcases qd.1 ht with rfl | ht
       ·omega
       ·have:=ih ht; omega
     omega
  ·intro m x h hw hi hm;rw [zLu];have W:=znt hw;refine zbmQ _ x h hw hi λa ha=> ?_
   have hv:zbJ m a=true/\zgo a:=by
    rcases ha with ha | ⟨w,hw',rfl⟩
    ·refine ⟨?_,(zhv W.1.1 a ha).1⟩;cases zdD.1 h with
     | var r h=>cases ha
     | mon b c hb hc _ _ _=>
      simp only [qd,List.not_mem_nil,or_false] at ha;rcases ha with rfl | rfl
      ·exact hb
      ·exact hc
     | del b hb _ _ _=>rw [qh] at ha; subst ha; exact hb
     | abs b hb _ _=>rw [qh] at ha; subst ha; exact hb
     | tst f l o b hl hi hs hf=>cases ha
    ·refine ⟨?_,(zfX W.2.1.1 w hw').2.1⟩;cases zdD.1 h with
     | tst f l o b hl hi2 hs hf=>exact (hi2 w hw').1
     | _=>cases hw'
   refine ⟨h1 m a hv.1 hv.2 (by omega), ?_⟩
   have q1:=(z2S m).1 a hv.1;have q2:=(zeJ hv.1).2.1;omega
  ·intro m l hl h hm;rw [zHK];refine zbmV _ l hl λf hf=> ?_
   obtain ⟨q1,q2,q3,q4⟩:=h f hf;refine ⟨h2 m f.At q1 q2 q3 (by omega), ?_,q4⟩
   have q5:=(z2S m).2 f.At q1;have q6:=z48 q1 q3;omega
def hd (S:List UInt8) (u:List UInt8):Prop:=∀ c,u.head? =some c->c∈S
theorem zqY {S:List UInt8} {c:UInt8} {u:List UInt8} (h:c∈S):hd S (c::u):=λd hd=>by
 simp only [List.head?_cons,qa] at hd; subst hd; exact h
theorem hd.mono {S T:List UInt8} {u:List UInt8} (h:hd S u) (hs:∀ c∈S,c∈T):hd T u:=λc hc=>hs c (h c hc)
theorem hd.noDig {S:List UInt8} {u:List UInt8} (h:hd S u) (hs:∀ c∈S,zth c=false):noDig u:=λc hc=>hs c (h c hc)
theorem hd.ne {S:List UInt8} {u:List UInt8} (h:hd S u) {c:UInt8} (hs:c∉S):u.head? ≠some c:=λe=>hs (h c e)
theorem hd.cons_ne {S:List UInt8} {u:List UInt8} {c:UInt8} (h:hd S (c::u)) (hs:c∉S):False:=hs (h c rfl)
theorem zRQ {α:Type} (tx:α->List UInt8) (S0:List UInt8) (s0:UInt8) (sr:List UInt8) (P:α->Prop) (hS:s0∉S0) (hR:∀ x y,P x->P y->∀ u v,hd (s0::S0) u->hd (s0::S0) v->tx x++u=tx y++v->x=y/\u=v):
  ∀ l l':List α,l≠[]->l'≠[]->(∀ x∈l,P x)->(∀ x∈l',P x)->∀ u v,hd S0 u->hd S0 v->zeT (l.map tx) (s0::sr)++u=zeT (l'.map tx) (s0::sr)++v->l=l'/\u=v
 | [],_,h,_,_,_,_,_,_,_,_=>absurd rfl h
 | _::_,[],_,h,_,_,_,_,_,_,_=>absurd rfl h
 | [x],[y],_,_,hx,hy,u,v,hu,hv,h=>by
  have mono:∀ c∈S0,c∈s0::S0:=λc hc=>List.mem_cons_of_mem _ hc
  obtain ⟨h1,h2⟩:=hR x y (hx x (by simp)) (hy y (by simp)) u v (hu.mono mono) (hv.mono mono) h
  exact ⟨by rw [h1],h2⟩
 | [x],y::y'::r',_,_,hx,hy,u,v,hu,hv,h=>by
  have mono:∀ c∈S0,c∈s0::S0:=λc hc=>List.mem_cons_of_mem _ hc
  simp only [List.map,zeT,List.append_assoc] at h;obtain ⟨h1,h2⟩:=hR x y (hx x (by simp)) (hy y (by simp)) u _ (hu.mono mono) (zqY (by simp)) h
  rw [h2] at hu;exact (hu.cons_ne hS).elim
 | x::x'::r,[y],_,_,hx,hy,u,v,hu,hv,h=>by
  have mono:∀ c∈S0,c∈s0::S0:=λc hc=>List.mem_cons_of_mem _ hc
  simp only [List.map,zeT,List.append_assoc] at h;obtain ⟨h1,h2⟩:=hR x y (hx x (by simp)) (hy y (by simp)) _ v (zqY (by simp)) (hv.mono mono) h
  rw [<- h2] at hv;exact (hv.cons_ne hS).elim
 | x::x'::r,y::y'::r',_,_,hx,hy,u,v,hu,hv,h=>by
  have h:zeT (((x::x'::r)).map tx) (s0::sr)++u=zeT (((y::y'::r')).map tx) (s0::sr)++v:=h;simp only [List.map,zeT,List.append_assoc] at h;obtain ⟨h1,h2⟩:=hR x y (hx x (by simp)) (hy y (by simp)) _ _ (zqY (by simp)) (zqY (by simp)) h
  have h3:=(List.append_right_inj sr).1 (List.cons.inj h2).2;obtain ⟨h4,h5⟩:=zRQ tx S0 s0 sr P hS hR (x'::r) (y'::r') (by simp) (by simp) (λz hz=>hx z (List.mem_cons_of_mem _ hz)) (λz hz=>hy z (List.mem_cons_of_mem _ hz)) u v hu hv h3
  exact ⟨by rw [h1,h4],h5⟩
theorem zbdj {t:ByteArray} (h:t.size=0):t=ByteArray.mk #[]:=zLc (by
 have:t.data.toList.length=0:=by rw [Array.length_toList]; exact h
 rw [List.length_eq_zero_iff.1 this])
theorem zbe7 {x y:Value} (hx:zwu x=true) (hy:zwu y=true) (rx:rng x.Int) (ry:rng y.Int) {u v:List UInt8} (hu:hd [58,93] u) (hv:hd [58,93] v) (h:txV x++u=txV y++v):x=y/\u=v:=by
 have d1:∀ c∈([58,93]:List UInt8),zth c=false:=by decide
 obtain ⟨cx,sx,ex,dx⟩:=zbca rx.1 rx.2;obtain ⟨cy,sy,ey,dy⟩:=zbca ry.1 ry.2
 have nd:∀ c:UInt8,c=45\/zth c=true->c≠39/\c≠84/\c≠70:=λc hc=>by
  refine ⟨?_, ?_, ?_⟩ <;>(intro e; subst e; revert hc; decide)
 obtain ⟨kx,ix,tx⟩:=x;obtain ⟨ky,iy,ty⟩:=y;simp only [zwu,Bool.or_eq_true,qc,beq_iff_eq,qe] at hx hy;simp only at rx ry ex ey;rcases hx with (⟨rfl,hx⟩ | ⟨⟨rfl,rfl⟩,hx⟩) | ⟨⟨rfl,hx⟩,hx2⟩
 ·have:=zbdj hx; subst this;rcases hy with (⟨rfl,hy⟩ | ⟨⟨rfl,rfl⟩,hy⟩) | ⟨⟨rfl,hy⟩,hy2⟩
  ·have:=zbdj hy; subst this;simp only [txV,if_true] at h;obtain ⟨h1,h2⟩:=zxV rx ry (hu.noDig d1) (hv.noDig d1) h;exact ⟨by rw [h1],h2⟩
  ·simp only [txV,if_true,show ¬ (1:Int)=0 by decide,if_false,ex,List.cons_append,qj] at h
   exact absurd h.1 (nd cx dx).1
  ·rcases hy2 with rfl | rfl
   ·simp only [txV,if_true,show ¬ (2:Int)=0 by decide,show ¬ (2:Int)=1 by decide,show ¬ (0:Int)=1 by decide,if_false,ex,List.cons_append,qj] at h
    exact absurd h.1 (nd cx dx).2.2
   ·simp only [txV,if_true,show ¬ (2:Int)=0 by decide,show ¬ (2:Int)=1 by decide,if_false,ex,List.cons_append,qj] at h
    exact absurd h.1 (nd cx dx).2.1
 ·rcases hy with (⟨rfl,hy⟩ | ⟨⟨rfl,rfl⟩,hy⟩) | ⟨⟨rfl,hy⟩,hy2⟩
  ·simp only [txV,if_true,show ¬ (1:Int)=0 by decide,if_false,ey,List.cons_append,qj] at h
   exact absurd h.1.symm (nd cy dy).1
  ·simp only [txV,if_true,show ¬ (1:Int)=0 by decide,if_false,List.cons_append,qj,true_and,List.append_assoc,List.nil_append] at h
   obtain ⟨h1,h2⟩:=z6X _ _ u v (hu.ne (by decide)) (hv.ne (by decide)) h
   exact ⟨by rw [zLc h1],h2⟩
  ·rcases hy2 with rfl | rfl <;>simp [txV] at h
 ·have:=zbdj hx; subst this;rcases hy with (⟨rfl,hy⟩ | ⟨⟨rfl,rfl⟩,hy⟩) | ⟨⟨rfl,hy⟩,hy2⟩
  ·rcases hx2 with rfl | rfl
   ·simp only [txV,if_true,show ¬ (2:Int)=0 by decide,show ¬ (2:Int)=1 by decide,show ¬ (0:Int)=1 by decide,if_false,ey,List.cons_append,qj] at h
    exact absurd h.1.symm (nd cy dy).2.2
   ·simp only [txV,if_true,show ¬ (2:Int)=0 by decide,show ¬ (2:Int)=1 by decide,if_false,ey,List.cons_append,qj] at h
    exact absurd h.1.symm (nd cy dy).2.1
  ·rcases hx2 with rfl | rfl <;>simp [txV] at h
  ·have:=zbdj hy; subst this;rcases hx2 with rfl | rfl <;>rcases hy2 with rfl | rfl <;>simp [txV] at h
   ·exact ⟨rfl,h⟩
   ·exact ⟨rfl,h⟩
theorem zbk7 {f g:Int} (hf:0<=f/\f<=3) (hg:0<=g/\g<=3) {u v:List UInt8} (h:fnT f++123::u=fnT g++123::v):f=g/\u=v:=by
 have c1:f=0\/f=1\/f=2\/f=3:=by omega
 have c2:g=0\/g=1\/g=2\/g=3:=by omega
 rcases c1 with rfl | rfl | rfl | rfl <;>rcases c2 with rfl | rfl | rfl | rfl <;>simp [fnT] at h <;>exact ⟨rfl,h⟩
theorem zbkr {f g:Int} (hf:5<=f/\f<=10) (hg:5<=g/\g<=10) {u v:List UInt8} (h:opT f++32::u=opT g++32::v):f=g/\u=v:=by
 have c1:f=5\/f=6\/f=7\/f=8\/f=9\/f=10:=by omega
 have c2:g=5\/g=6\/g=7\/g=8\/g=9\/g=10:=by omega
 rcases c1 with rfl | rfl | rfl | rfl | rfl | rfl <;>rcases c2 with rfl | rfl | rfl | rfl | rfl | rfl <;>simp [opT] at h <;>exact ⟨rfl,h⟩
def SN:List UInt8:=[93,44,59,125]
def ST:List UInt8:=32::SN
def SF:List UInt8:=42::ST
def SA:List UInt8:=94::SF
theorem z8O:∀ c∈SA,zth c=false:=by decide
theorem zbom:∀ c∈ST,c∈SA:=by decide
theorem z8R:∀ c∈SF,c∈SA:=by decide
def RdN (V:yC->Bool):Prop:=∀ a b,V a=true->V b=true->zgo a->zgo b->∀ u v,hd SN u->hd SN v->txN a++u=txN b++v->a=b/\u=v
def RdA (V:yC->Bool):Prop:=∀ x y,zd8 V x=true->zd8 V y=true->zf9 x->zf9 y->∀ u v,hd SA u->hd SA v->txA x++u=txA y++v->x=y/\u=v
theorem zbkf {V:yC->Bool} {x:At} (h:zd8 V x=true):∃ c r,txA x=c::r/\zth c=false:=by
 cases zdD.1 h with
 | var r h=>rw [txA]; exact ⟨116,_,rfl,rfl⟩
 | mon a b _ _ _ _ _=>rw [txA]; exact ⟨109,_,rfl,rfl⟩
 | del a _ _ _ _=>rw [txA]; exact ⟨100,_,rfl,rfl⟩
 | abs a _ _ _=>rw [txA]; exact ⟨97,_,rfl,rfl⟩
 | tst f l o b _ _ _ _=>rw [txA]; exact ⟨116,_,rfl,rfl⟩
theorem zbjn {V:yC->Bool} (hV:RdN V):RdA V:=by
 intro x y hx hy wx wy u v hu hv h;have Wx:=znt wx;have Wy:=znt wy;have k0:¬ (1:Int)=0:=by decide
 have c44:∀ z,hd SN (44::z):=λz=>zqY (by decide)
 have c93:∀ z,hd SN (93::z):=λz=>zqY (by decide)
 have tE:∀ (r:RowID),zCH r=true->rng r.Table->∀ w z,ziG r.Table++w≠101::z:=λr hr hg w z e=>by
  simp only [zCH,qc,qe] at hr;obtain ⟨d1,d2⟩:=zbiP (show 0<=r.Table by omega) hg.2
  cases hl:ziG r.Table with
  | nil=>exact d2 hl
  | cons c s=>
   rw [hl] at e d1;simp only [List.cons_append,qj] at e;rw [List.all_cons,e.1] at d1;revert d1; simp [zth]
 cases zdD.1 hx with
 | var r hr=>
  have rr:=Wx.2.2.2.2.1;simp only at rr;cases zdD.1 hy with
  | var r' hr'=>
   have rr':=Wy.2.2.2.2.1;simp only at rr';rw [txA,txA] at h;simp only [zdw,if_true,txR,List.cons_append,qj,true_and,List.append_assoc] at h;obtain ⟨h1,h2⟩:=zxV (zm7 rr.1) (zm7 rr'.1) (λc hc=>by simp only [List.head?_cons,qa] at hc; subst hc; rfl) (λc hc=>by simp only [List.head?_cons,qa] at hc; subst hc; rfl) h
   simp only [qj,true_and] at h2;obtain ⟨h3,h4⟩:=zxV (zm7 rr.2) (zm7 rr'.2) (hu.noDig z8O) (hv.noDig z8O) h2;obtain ⟨t,s⟩:=r; obtain ⟨t',s'⟩:=r';simp only at h1 h3;exact ⟨by rw [h1,h3],h4⟩
  | tst f l o b _ _ _ _=>
   rw [txA,txA] at h;simp only [zdw,if_true,txR,show ¬ (4:Int)=0 by decide,show ¬ (4:Int)=1 by decide,show ¬ (4:Int)=2 by decide,show ¬ (4:Int)=3 by decide,if_false,List.cons_append,qj,true_and,List.append_assoc] at h
   exact absurd h (tE r hr (zm7 rr.1) _ _)
  | mon a b _ _ _ _ _=>rw [txA,txA] at h; simp [zdw,txR] at h
  | del a _ _ _ _=>rw [txA,txA] at h; simp [zdw,txR] at h
  | abs a _ _ _=>rw [txA,txA] at h; simp [zdw,txR] at h
 | mon a b ha hb _ _ _=>
  cases zdD.1 hy with
  | mon a' b' ha' hb' _ _ _=>
   rw [txA,txA,zm8,zm8] at h;simp only [zdw,if_true,k0,if_false,List.map,List.getD_cons_zero,List.getD_cons_succ,List.cons_append,qj,true_and,List.append_assoc,List.nil_append] at h;have wa:=λz hz=>(zhv Wx.1.1 z hz).1
   have wb:=λz hz=>(zhv Wy.1.1 z hz).1
   obtain ⟨h1,h2⟩:=hV a a' ha ha' (wa a (by simp)) (wb a' (by simp)) _ _ (c44 _) (c44 _) h
   simp only [qj,true_and] at h2;obtain ⟨h3,h4⟩:=hV b b' hb hb' (wa b (by simp)) (wb b' (by simp)) _ _ (c93 _) (c93 _) h2
   simp only [qj,true_and] at h4;exact ⟨by rw [h1,h3],h4⟩
  | var r h=>rw [txA,txA] at h; simp [zdw,txR] at h
  | del a _ _ _ _=>rw [txA,txA] at h; simp [zdw,txR] at h
  | abs a _ _ _=>rw [txA,txA] at h; simp [zdw,txR] at h
  | tst f l o b _ _ _ _=>rw [txA,txA] at h; simp [zdw,txR] at h
 | del a ha _ _ _=>
  cases zdD.1 hy with
  | del a' ha' _ _ _=>
   rw [txA,txA,zm8,zm8] at h;simp only [zdw,if_true,show ¬ (2:Int)=0 by decide,show ¬ (2:Int)=1 by decide,if_false,List.map,List.getD_cons_zero,List.cons_append,qj,true_and,List.append_assoc,List.nil_append] at h
   have wa:=λz hz=>(zhv Wx.1.1 z hz).1
   have wb:=λz hz=>(zhv Wy.1.1 z hz).1
   obtain ⟨h1,h2⟩:=hV a a' ha ha' (wa a (by simp)) (wb a' (by simp)) _ _ (c93 _) (c93 _) h
   simp only [qj,true_and] at h2;exact ⟨by rw [h1],h2⟩
  | var r h=>rw [txA,txA] at h; simp [zdw,txR] at h
  | mon a b _ _ _ _ _=>rw [txA,txA] at h; simp [zdw,txR] at h
  | abs a _ _ _=>rw [txA,txA] at h; simp [zdw,txR] at h
  | tst f l o b _ _ _ _=>rw [txA,txA] at h; simp [zdw,txR] at h
 | abs a ha _ _=>
  cases zdD.1 hy with
  | abs a' ha' _ _=>
   rw [txA,txA,zm8,zm8] at h;simp only [zdw,if_true,show ¬ (3:Int)=0 by decide,show ¬ (3:Int)=1 by decide,show ¬ (3:Int)=2 by decide,if_false,List.map,List.getD_cons_zero,List.cons_append,qj,true_and,List.append_assoc,List.nil_append] at h
   have wa:=λz hz=>(zhv Wx.1.1 z hz).1
   have wb:=λz hz=>(zhv Wy.1.1 z hz).1
   obtain ⟨h1,h2⟩:=hV a a' ha ha' (wa a (by simp)) (wb a' (by simp)) _ _ (c93 _) (c93 _) h
   simp only [qj,true_and] at h2;exact ⟨by rw [h1],h2⟩
  | var r h=>rw [txA,txA] at h; simp [zdw,txR] at h
  | mon a b _ _ _ _ _=>rw [txA,txA] at h; simp [zdw,txR] at h
  | del a _ _ _ _=>rw [txA,txA] at h; simp [zdw,txR] at h
  | tst f l o b _ _ _ _=>rw [txA,txA] at h; simp [zdw,txR] at h
 | tst f l o b hl hi hs hf=>
  cases zdD.1 hy with
  | tst f' l' o' b' hl' hi' hs' hf'=>
   obtain ⟨⟨f0,f3,o5,o10⟩,hb,hit⟩:=zuk hf;obtain ⟨⟨f0',f3',o5',o10'⟩,hb',hit'⟩:=zuk hf';have wl:=zfX Wx.2.1.1;have wl':=zfX Wy.2.1.1;rw [txA,txA,zO3,zO3] at h;simp only [zdw,show ¬ (4:Int)=0 by decide,show ¬ (4:Int)=1 by decide,show ¬ (4:Int)=2 by decide,show ¬ (4:Int)=3 by decide,if_false,List.cons_append,qj,true_and,List.append_assoc,List.nil_append] at h
   obtain ⟨h1,h2⟩:=zbk7 ⟨f0,f3⟩ ⟨f0',f3'⟩ h
   obtain ⟨h3,h4⟩:=zRQ txI [125] 59 [32] (λw=>(V w.Ann=true/\zgo w.Ann)/\zwu w.Value=true/\rng w.Value.Int) (by decide) (λx y px py u v hu hv e=>by
    simp only [txI,List.append_assoc,List.cons_append,List.nil_append] at e;obtain ⟨e1,e2⟩:=zbe7 px.2.1 py.2.1 px.2.2 py.2.2 (zqY (by decide)) (zqY (by decide)) e
    simp only [qj,true_and] at e2;obtain ⟨e3,e4⟩:=hV _ _ px.1.1 py.1.1 px.1.2 py.1.2 u v (hu.mono (by decide)) (hv.mono (by decide)) e2
    obtain ⟨vx,ax⟩:=x; obtain ⟨vy,ay⟩:=y;simp only at e1 e3;exact ⟨by rw [e1,e3],e4⟩) l l' hl hl' (λw hw=>⟨⟨(hi w hw).1,(wl w hw).2.1⟩,(hit w hw).1,zm7 (wl w hw).1.2.1⟩) (λw hw=>⟨⟨(hi' w hw).1,(wl' w hw).2.1⟩,(hit' w hw).1,zm7 (wl' w hw).1.2.1⟩) _ _ (zqY (by decide)) (zqY (by decide)) h2
   simp only [qj,true_and] at h4;obtain ⟨h5,h6⟩:=zbkr ⟨o5,o10⟩ ⟨o5',o10'⟩ h4;obtain ⟨h7,h8⟩:=zbe7 hb hb' (zm7 Wx.2.2.1.2.1) (zm7 Wy.2.2.1.2.1) (zqY (by decide)) (zqY (by decide)) h6
   simp only [qj,true_and] at h8;exact ⟨by rw [h1,h3,h5,h7],h8⟩
  | var r hr=>
   have rr:=Wy.2.2.2.2.1;simp only at rr;rw [txA,txA] at h;simp only [zdw,if_true,txR,show ¬ (4:Int)=0 by decide,show ¬ (4:Int)=1 by decide,show ¬ (4:Int)=2 by decide,show ¬ (4:Int)=3 by decide,if_false,List.cons_append,qj,true_and,List.append_assoc] at h
   exact absurd h.symm (tE r hr (zm7 rr.1) _ _)
  | mon a b _ _ _ _ _=>rw [txA,txA] at h; simp [zdw,txR] at h
  | del a _ _ _ _=>rw [txA,txA] at h; simp [zdw,txR] at h
  | abs a _ _ _=>rw [txA,txA] at h; simp [zdw,txR] at h
def gF (V:yC->Bool) (f:Fc):Prop:=zd8 V f.At=true/\zf9 f.At/\rng f.Exp
theorem zbm6 {V:yC->Bool} (hA:RdA V) {f g:Fc} (hf:gF V f) (hg:gF V g) {u v:List UInt8} (hu:hd SF u) (hv:hd SF v) (h:txF f++u=txF g++v):f=g/\u=v:=by
 obtain ⟨x,e⟩:=f; obtain ⟨y,e'⟩:=g;obtain ⟨a1,a2,a3⟩:=hf; obtain ⟨b1,b2,b3⟩:=hg;simp only at a1 a2 a3 b1 b2 b3;have c94:∀ z,hd SA (94::z):=λz=>zqY (by decide)
 have n94:(94:UInt8)∉SF:=by decide
 have dg:∀ c∈SF,zth c=false:=λc hc=>z8O c (z8R c hc)
 unfold txF zRV at h;simp only at h;by_cases h1:e=1
 ·by_cases h2:e'=1
  ·rw [if_pos h1,if_pos h2] at h;obtain ⟨q1,q2⟩:=hA x y a1 b1 a2 b2 u v (hu.mono z8R) (hv.mono z8R) h;exact ⟨by rw [q1,h1,h2],q2⟩
  ·rw [if_pos h1,if_neg h2,List.append_assoc] at h;obtain ⟨q1,q2⟩:=hA x y a1 b1 a2 b2 u _ (hu.mono z8R) (c94 _) h;rw [q2] at hu;exact (hu.cons_ne n94).elim
 ·by_cases h2:e'=1
  ·rw [if_neg h1,if_pos h2,List.append_assoc] at h;obtain ⟨q1,q2⟩:=hA x y a1 b1 a2 b2 _ v (c94 _) (hv.mono z8R) h;rw [<- q2] at hv;exact (hv.cons_ne n94).elim
  ·rw [if_neg h1,if_neg h2,List.append_assoc,List.append_assoc] at h;obtain ⟨q1,q2⟩:=hA x y a1 b1 a2 b2 _ _ (c94 _) (c94 _) h;simp only [List.cons_append,qj,true_and] at q2;obtain ⟨q3,q4⟩:=zxV a3 b3 (hu.noDig dg) (hv.noDig dg) q2;exact ⟨by rw [q1,q3],q4⟩
theorem zbaK {V:yC->Bool} (hA:RdA V) {l l':yD} (hl:l≠[]) (hl':l'≠[]) (h1:∀ f∈l,gF V f) (h2:∀ f∈l',gF V f) {u v:List UInt8} (hu:hd ST u) (hv:hd ST v) (h:txL l++u=txL l'++v):l=l'/\u=v:=by
 unfold txL at h;rw [zCg,zCg] at h;exact zRQ txF ST 42 [] (gF V) (by decide) (λx y px py u v hu hv e=>zbm6 hA px py hu hv e) l l' hl hl' h1 h2 u v hu hv h
theorem zIC {V:yC->Bool} {l:yD} (hl:l≠[]) (h:∀ f∈l,gF V f):∃ c r,txL l=c::r/\zth c=false:=by
 cases l with
 | nil=>exact absurd rfl hl
 | cons f r=>
  obtain ⟨c,s,e,hc⟩:=zbkf (h f (by simp)).1
  have:∃ s',txF f=c::s':=by
   unfold txF zRV;split
   ·exact ⟨s,e⟩
   ·exact ⟨_,by rw [e]; rfl⟩
  obtain ⟨s',e'⟩:=this;unfold txL;rw [zCg];cases r with
  | nil=>exact ⟨c,s',by simp only [List.map,zeT]; exact e',hc⟩
  | cons g r=>exact ⟨c,_,by simp only [List.map,zeT]; rw [e']; rfl,hc⟩
def gT (V:yC->Bool) (t:Term):Prop:=(1<=t.Cf/\t.Cf<=9223372036854775807)/\∀ f∈t.Fs,gF V f
theorem zbav {n:Int} (h:1<=n) (h2:n<=9223372036854775807):∃ c r,ziG n=c::r/\zth c=true/\c≠48:=by
 have e:ziG n=Lib.decDigits n.toNat:=by rw [z6S (by omega) h2,Lib.itoa,if_neg (by omega)]
 obtain ⟨a1,a2,a3,a4⟩:=z06 n.toNat n.toNat (Nat.le_refl _);rw [e];cases hl:Lib.decDigits n.toNat with
 | nil=>exact absurd hl a3
 | cons c r=>
  rw [hl] at a1 a4;rw [List.all_cons,qc] at a1;exact ⟨c,r,rfl,a1.1,λe=>a4 (by omega) (by rw [e]; rfl)⟩
theorem zbe9 {l:yD}:zPo l=[]↔l=[]:=by rw [zCg,List.map_eq_nil_iff]
theorem zbe2 (t:Term):txT t=if t.Fs=[] then ziG t.Cf else if t.Cf=1 then txL t.Fs else ziG t.Cf++42::txL t.Fs:=by
 unfold txT z0X;by_cases h:t.Fs=[]
 ·rw [if_pos (zbe9.2 h),if_pos h]
 ·rw [if_neg (λe=>h (zbe9.1 e)),if_neg h]; rfl
theorem zbnZ {V:yC->Bool} (hA:RdA V) {s t:Term} (hs:gT V s) (ht:gT V t) {u v:List UInt8} (hu:hd ST u) (hv:hd ST v) (h:txT s++u=txT t++v):s=t/\u=v:=by
 obtain ⟨c,l⟩:=s; obtain ⟨c',l'⟩:=t;obtain ⟨⟨c1,c2⟩,h1⟩:=hs; obtain ⟨⟨c1',c2'⟩,h2⟩:=ht;simp only at c1 c2 h1 c1' c2' h2;have dg:∀ c∈ST,zth c=false:=λc hc=>z8O c (zbom c hc)
 have n42:(42:UInt8)∉ST:=by decide
 have d42:∀ z,noDig (42::z):=λz c hc=>by simp only [List.head?_cons,qa] at hc; subst hc; rfl
 have rc:rng c:=⟨by omega,c2⟩
 have rc':rng c':=⟨by omega,c2'⟩
 obtain ⟨d,r,e,hd,_⟩:=zbav c1 c2;obtain ⟨d',r',e',hd',_⟩:=zbav c1' c2';rw [zbe2,zbe2] at h;simp only at h;by_cases l0:l=[]
 ·rw [if_pos l0] at h;by_cases l0':l'=[]
  ·rw [if_pos l0'] at h;obtain ⟨q1,q2⟩:=zxV rc rc' (hu.noDig dg) (hv.noDig dg) h;exact ⟨by rw [q1,l0,l0'],q2⟩
  ·rw [if_neg l0'] at h;by_cases k':c'=1
   ·rw [if_pos k'] at h;obtain ⟨d2,r2,e2,hd2⟩:=zIC l0' h2;rw [e,e2] at h;simp only [List.cons_append,qj] at h;rw [h.1,hd2] at hd; cases hd
   ·rw [if_neg k',List.append_assoc] at h;obtain ⟨q1,q2⟩:=zxV rc rc' (hu.noDig dg) (d42 _) h;rw [q2] at hu;exact (hu.cons_ne n42).elim
 ·rw [if_neg l0] at h;by_cases k:c=1
  ·rw [if_pos k] at h;obtain ⟨d2,r2,e2,hd2⟩:=zIC l0 h1;by_cases l0':l'=[]
   ·rw [if_pos l0',e2,e'] at h;simp only [List.cons_append,qj] at h;rw [<- h.1,hd2] at hd'; cases hd'
   ·rw [if_neg l0'] at h;by_cases k':c'=1
    ·rw [if_pos k'] at h;obtain ⟨q1,q2⟩:=zbaK hA l0 l0' h1 h2 hu hv h;exact ⟨by rw [q1,k,k'],q2⟩
    ·rw [if_neg k',e2,e'] at h;simp only [List.cons_append,qj] at h;rw [<- h.1,hd2] at hd'; cases hd'
  ·rw [if_neg k,List.append_assoc] at h;by_cases l0':l'=[]
   ·rw [if_pos l0'] at h;obtain ⟨q1,q2⟩:=zxV rc rc' (d42 _) (hv.noDig dg) h;rw [<- q2] at hv;exact (hv.cons_ne n42).elim
   ·rw [if_neg l0'] at h;by_cases k':c'=1
    ·rw [if_pos k'] at h;obtain ⟨d2,r2,e2,hd2⟩:=zIC l0' h2;rw [e,e2] at h;simp only [List.cons_append,qj] at h;rw [h.1,hd2] at hd; cases hd
    ·rw [if_neg k',List.append_assoc] at h;obtain ⟨q1,q2⟩:=zxV rc rc' (d42 _) (d42 _) h;simp only [List.cons_append,qj,true_and] at q2;obtain ⟨q3,q4⟩:=zbaK hA l0 l0' h1 h2 hu hv q2;exact ⟨by rw [q1,q3],q4⟩
theorem zbki {V:yC->Bool} {t:Term} (ht:gT V t):∃ c r,txT t=c::r/\c≠48:=by
 obtain ⟨⟨c1,c2⟩,h1⟩:=ht;obtain ⟨d,r,e,hd,h48⟩:=zbav c1 c2;rw [zbe2];by_cases l0:t.Fs=[]
 ·rw [if_pos l0]; exact ⟨d,r,e,h48⟩
 ·rw [if_neg l0];split
  ·obtain ⟨d2,r2,e2,hd2⟩:=zIC l0 h1;exact ⟨d2,r2,e2,λe=>by rw [e] at hd2; revert hd2; decide⟩
  ·exact ⟨d,_,by rw [e]; rfl,h48⟩
theorem zbmO {V:yC->Bool} (hA:RdA V) {a b:yC} (ha:∀ t∈a,gT V t) (hb:∀ t∈b,gT V t) {u v:List UInt8} (hu:hd SN u) (hv:hd SN v) (h:txN a++u=txN b++v):a=b/\u=v:=by
 have en:∀ z:yC,z≠[]->txN z=zeT (z.map txT) [32,43,32]:=λz hz=>by
  unfold txN zWS; rw [zXo,if_neg (by simpa using hz)]
 have e0:txN []=[48]:=by unfold txN zWS; rw [zV1,if_pos rfl]
 have h48:∀ z:yC,z≠[]->(∀ t∈z,gT V t)->∃ c r,txN z=c::r/\c≠48:=λz hz hg=>by
  rw [en z hz];cases z with
  | nil=>exact absurd rfl hz
  | cons t r=>
   obtain ⟨c,s,e,hc⟩:=zbki (hg t (by simp))
   cases r with
   | nil=>exact ⟨c,s,by simp only [List.map,zeT]; exact e,hc⟩
   | cons t' r=>exact ⟨c,_,by simp only [List.map,zeT]; rw [e]; rfl,hc⟩
 by_cases a0:a=[]
 ·by_cases b0:b=[]
  ·rw [a0,b0] at h;exact ⟨by rw [a0,b0],List.append_cancel_left h⟩
  ·obtain ⟨c,r,e,hc⟩:=h48 b b0 hb;rw [a0,e0,e] at h;simp only [List.cons_append,qj] at h;exact absurd h.1.symm hc
 ·by_cases b0:b=[]
  ·obtain ⟨c,r,e,hc⟩:=h48 a a0 ha;rw [b0,e0,e] at h;simp only [List.cons_append,qj] at h;exact absurd h.1 hc
  ·rw [en a a0,en b b0] at h;exact zRQ txT SN 32 [43,32] (gT V) (by decide) (λx y px py u v hu hv e=>zbnZ hA px py hu hv e) a b a0 b0 ha hb u v hu hv h
theorem zbjZ:∀ m,RdN (zbJ m)/\RdA (zbJ m):=by
 intro m;induction m with
 | zero=>
  have:RdN (zbJ 0):=λa b ha=>by cases ha
  exact ⟨this,zbjn this⟩
 | succ m ih=>
  have:RdN (zbJ (m+1)):=λa b ha hb wa wb u v hu hv h=>by
   have key:∀ z,zbJ (m+1) z=true->zgo z->∀ t∈z,gT (zbJ m) t:=λz hz wz t ht=>by
    obtain ⟨⟨c1,c2⟩,hok⟩:=zxN hz ht;have hwt:=zl7 (zux (zqr wz t ht)).2.1;exact ⟨⟨c1,by omega⟩,λf hf=>⟨(zqg hok hf).2,(znM (hwt f hf)).1,zm7 (znM (hwt f hf)).2⟩⟩
   exact zbmO ih.2 (key a ha wa) (key b hb wb) hu hv h
  exact ⟨this,zbjn this⟩
theorem zblM {m:Nat} {l l':yD} (h1:∀ f∈l,gF (zbJ m) f) (h2:∀ f∈l',gF (zbJ m) f) (h:txL l=txL l'):l=l':=by
 have e0:txL []=[]:=by unfold txL; rw [zPo]; rfl
 by_cases l0:l=[]
 ·by_cases l0':l'=[]
  ·rw [l0,l0']
  ·obtain ⟨c,r,e,_⟩:=zIC l0' h2;rw [l0,e0,e] at h; cases h
 ·by_cases l0':l'=[]
  ·obtain ⟨c,r,e,_⟩:=zIC l0 h1;rw [l0',e0,e] at h; cases h
  ·exact (zbaK (zbjZ m).2 l0 l0' h1 h2 (u:=[]) (v:=[]) (λc hc=>by cases hc) (λc hc=>by cases hc) (by rw [h])).1
def zAZ (a b:Int):Int:=if 1152921504606846976<a+b then 1152921504606846976 else a+b
def cT (x y:Term):Int:=zbK (zbD x.Fs) (zbD y.Fs)
theorem z29 {x y:Term} (h:cT x y=0):x.Fs=y.Fs:=zEq _ _ (zN4 _ _ h)
theorem zFA {x y:Term} (h:x.Fs=y.Fs):cT x y=0:=by unfold cT; rw [h]; exact z0l _
def ze6 (t:Term):yC->yC
 | []=>[t]
 | x::r=>if cT x t<0 then x::ze6 t r else if cT x t=0 then ⟨zAZ x.Cf t.Cf,t.Fs⟩::r else t::x::r
def znQ (t:Term):yC->yC
 | []=>[t]
 | x::r=>if x.Fs=t.Fs then ⟨zAZ x.Cf t.Cf,x.Fs⟩::r else x::znQ t r
abbrev Srs (l:yC):Prop:=l.Pairwise λx y=>cT x y<0
abbrev Dst (l:yC):Prop:=l.Pairwise λx y=>x.Fs≠y.Fs
theorem Srs.dst {l:yC} (h:Srs l):Dst l:=h.imp λ{x y} hxy e=>by rw [zFA e] at hxy; omega
def SM (l:yC) (t y:Term):Prop:=(y∈l/\y.Fs≠t.Fs)\/(y.Fs=t.Fs/\((∃ x∈l,x.Fs=t.Fs/\y.Cf=zAZ x.Cf t.Cf)\/((∀ x∈l,x.Fs≠t.Fs)/\y.Cf=t.Cf)))
theorem zbgz {x y:Term} (h1:x.Cf=y.Cf) (h2:x.Fs=y.Fs):x=y:=by cases x; cases y; simp_all
theorem zI7 {x y z:Term} (h1:cT x y<0) (h2:cT y z<0):cT x z<0:=zbcR h1 h2
theorem zJg (x y:Term):cT y x= - cT x y:=zJR _ _
theorem z7V {x t y:Term} {r:yC} (hx:x.Fs≠t.Fs) (hr:∀ z∈r,x.Fs≠z.Fs):SM (x::r) t y↔y=x\/SM r t y:=by
 unfold SM;constructor
 ·rintro (⟨h1,h2⟩ | ⟨h1,⟨z,hz,h2,h3⟩ | ⟨h2,h3⟩⟩)
  ·rcases qd.1 h1 with rfl | h1
   ·exact .inl rfl
   ·exact .inr (.inl ⟨h1,h2⟩)
  ·rcases qd.1 hz with rfl | hz
   ·exact absurd h2 hx
   ·exact .inr (.inr ⟨h1,.inl ⟨z,hz,h2,h3⟩⟩)
  ·exact .inr (.inr ⟨h1,.inr ⟨λz hz=>h2 z (by simp [hz]),h3⟩⟩)
 ·rintro (rfl | ⟨h1,h2⟩ | ⟨h1,⟨z,hz,h2,h3⟩ | ⟨h2,h3⟩⟩)
  ·exact .inl ⟨by simp,hx⟩
  ·exact .inl ⟨by simp [h1],h2⟩
  ·exact .inr ⟨h1,.inl ⟨z,by simp [hz],h2,h3⟩⟩
  ·exact .inr ⟨h1,.inr ⟨λz hz=>by
    rcases qd.1 hz with rfl | hz
    ·exact hx
    ·exact h2 z hz,h3⟩⟩
theorem zbaw {t y:Term} {l:yC} (h:∀ z∈l,z.Fs≠t.Fs):SM l t y↔y=t\/y∈l:=by
 unfold SM;constructor
 ·rintro (⟨h1,h2⟩ | ⟨h1,⟨z,hz,h2,h3⟩ | ⟨h2,h3⟩⟩)
  ·exact .inr h1
  ·exact absurd h2 (h z hz)
  ·exact .inl (zbgz h3 h1)
 ·rintro (rfl | h1)
  ·exact .inr ⟨rfl,.inr ⟨h,rfl⟩⟩
  ·exact .inl ⟨h1,h y h1⟩
theorem zbiQ {x t y:Term} {r:yC} (hx:x.Fs=t.Fs) (hr:∀ z∈r,z.Fs≠t.Fs):SM (x::r) t y↔y=⟨zAZ x.Cf t.Cf,t.Fs⟩\/y∈r:=by
 unfold SM;constructor
 ·rintro (⟨h1,h2⟩ | ⟨h1,⟨z,hz,h2,h3⟩ | ⟨h2,h3⟩⟩)
  ·rcases qd.1 h1 with rfl | h1
   ·exact absurd hx h2
   ·exact .inr h1
  ·rcases qd.1 hz with rfl | hz
   ·exact .inl (zbgz h3 h1)
   ·exact absurd h2 (hr z hz)
  ·exact absurd hx (h2 x (by simp))
 ·rintro (rfl | h1)
  ·exact .inr ⟨rfl,.inl ⟨x,by simp,hx,rfl⟩⟩
  ·exact .inl ⟨by simp [h1],hr y h1⟩
theorem zCK {t y:Term}:∀ {l:yC},Srs l->(y∈ze6 t l↔SM l t y)
 | [],_=>by rw [zbaw (by simp)]; simp [ze6]
 | x::r,h=>by
  have hc:=qi.1 h;have hd:=qi.1 h.dst;unfold ze6;by_cases h1:cT x t<0
  ·rw [if_pos h1,qd,z7V (λe=>by rw [zFA e] at h1; omega) hd.1,zCK hc.2]
  ·rw [if_neg h1];by_cases h2:cT x t=0
   ·rw [if_pos h2,List.mem_cons,zbiQ (z29 h2) λz hz e=>by
     have:=hc.1 z hz; rw [zFA ((z29 h2).trans e.symm)] at this; omega]
   ·rw [if_neg h2,zbaw λz hz e=>by
     have a:=zJg x t;rcases qd.1 hz with rfl | hz
     ·exact h2 (zFA e)
     ·have b:=zI7 (show cT t x<0 by omega) (hc.1 z hz)
      rw [zFA e.symm] at b; omega]
    rw [qd]
theorem zbaF {t y:Term}:∀ {l:yC},Dst l->(y∈znQ t l↔SM l t y)
 | [],_=>by rw [zbaw (by simp)]; simp [znQ]
 | x::r,h=>by
  have hd:=qi.1 h;unfold znQ;by_cases h2:x.Fs=t.Fs
  ·rw [if_pos h2,qd,zbiQ h2 λz hz e=>hd.1 z hz (h2.trans e.symm),h2]
  ·rw [if_neg h2,qd,z7V h2 hd.1,zbaF hd.2]
theorem zzS {t:Term}:∀ {l:yC},Srs l->Srs (ze6 t l)
 | [],_=>by simp [ze6]
 | x::r,h=>by
  have hc:=qi.1 h;unfold ze6;by_cases h1:cT x t<0
  ·rw [if_pos h1];refine qi.2 ⟨λz hz=> ?_,zzS hc.2⟩
   rcases (zCK hc.2).1 hz with ⟨h2,_⟩ | ⟨h2,_⟩
   ·exact hc.1 z h2
   ·have:cT x z=cT x t:=by unfold cT; rw [h2]
    rw [this]; exact h1
  ·rw [if_neg h1];by_cases h2:cT x t=0
   ·rw [if_pos h2];refine qi.2 ⟨λz hz=> ?_,hc.2⟩
    have:=hc.1 z hz;unfold cT at this ⊢;rw [<- z29 h2]; exact this
   ·rw [if_neg h2];have a:=zJg x t;refine qi.2 ⟨λz hz=> ?_,h⟩
    rcases qd.1 hz with rfl | hz
    ·omega
    ·exact zI7 (show cT t x<0 by omega) (hc.1 z hz)
theorem zbbl {t:Term}:∀ {l:yC},Dst l->Dst (znQ t l)
 | [],_=>by simp [znQ]
 | x::r,h=>by
  have hc:=qi.1 h;unfold znQ;by_cases h2:x.Fs=t.Fs
  ·rw [if_pos h2];exact qi.2 ⟨λz hz=>hc.1 z hz,hc.2⟩
  ·rw [if_neg h2];refine qi.2 ⟨λz hz=> ?_,zbbl hc.2⟩
   rcases (zbaF hc.2).1 hz with ⟨h3,_⟩ | ⟨h3,_⟩
   ·exact hc.1 z h3
   ·rw [h3]; exact h2
theorem Dst.nodup {l:yC} (h:Dst l):l.Nodup:=h.imp λ{x y} hxy e=>hxy (by rw [e])
theorem zbly {l l':yC} (h:l.Perm l') (t y:Term):SM l t y↔SM l' t y:=by
 unfold SM;simp only [h.mem_iff]
theorem zbjE {l l':yC} (t:Term) (h:l.Perm l') (hs:Srs l) (hd:Dst l'):(ze6 t l).Perm (znQ t l'):=
 (List.perm_ext_iff_of_nodup (zzS hs).dst.nodup (zbbl hd).nodup).2 λy=>by rw [zCK hs,zbaF hd,zbly h]
def zdS (a b:yC):yC:=b.foldl (λa t=>ze6 t a) a
def zRh (ts:yC):yC:=ts.foldl (λa t=>znQ t a) []
theorem zIN:∀ (b a:yC),Srs a->Srs (zdS a b)
 | [],_,h=>h
 | t::r,a,h=>zIN r (ze6 t a) (zzS h)
theorem zbbP:∀ (ts l l':yC),l.Perm l'->Srs l->Dst l'->(zdS l ts).Perm (ts.foldl (λa t=>znQ t a) l')/\Dst (ts.foldl (λa t=>znQ t a) l')
 | [],l,l',h,_,hd=>⟨h,hd⟩
 | t::r,l,l',h,hs,hd=>zbbP r (ze6 t l) (znQ t l') (zbjE t h hs hd) (zzS hs) (zbbl hd)
theorem zbeZ {t:Term}:∀ {l:yC},(∀ x∈l,cT x t<0)->ze6 t l=l++[t]
 | [],_=>rfl
 | x::r,h=>by
  unfold ze6;rw [if_pos (h x (by simp)),zbeZ λy hy=>h y (by simp [hy])]; rfl
theorem zba6:∀ (r l:yC),Srs (l++r)->zdS l r=l++r
 | [],l,_=>by simp [zdS]
 | t::r,l,h=>by
  have e:zdS l (t::r)=zdS (ze6 t l) r:=rfl;have hp:=List.pairwise_append.1 h;rw [e,zbeZ λx hx=>hp.2.2 x hx t (by simp),zba6 r (l++[t]) (by simpa using h)]
  simp
theorem sum_nil {a:yC} (h:Srs a):zdS [] a=a:=zba6 a [] h
theorem zbmJ (a b:yC) (h:Srs a):zdS [] (a++b)=zdS a b:=by
 show (a++b).foldl (λa t=>ze6 t a) []=_
 rw [List.foldl_append];show zdS (zdS [] a) b=_;rw [sum_nil h]
theorem zIU {y:Term}:∀ (b a:yC),Srs a->y∈zdS a b->∃ x,(x∈a\/x∈b)/\y.Fs=x.Fs
 | [],a,_,h=>⟨y,.inl h,rfl⟩
 | t::r,a,hs,h=>by
  obtain ⟨x,hx,e⟩:=zIU r (ze6 t a) (zzS hs) h;rcases hx with hx | hx
  ·rcases (zCK hs).1 hx with ⟨h1,_⟩ | ⟨h1,_⟩
   ·exact ⟨x,.inl h1,e⟩
   ·exact ⟨t,.inr (by simp),e.trans h1⟩
  ·exact ⟨x,.inr (by simp [hx]),e⟩
theorem zbby {a b:Int} (ha:1<=a) (hb:1<=b):1<=zAZ a b/\zAZ a b<=1152921504606846976:=by
 unfold zAZ;split
 ·omega
 ·omega
def cOK (t:Term):Prop:=1<=t.Cf/\t.Cf<=1152921504606846976
theorem zbdo {t:Term} (ht:cOK t):∀ {l:yC},(∀ x∈l,cOK x)->∀ x∈ze6 t l,cOK x
 | [],_,x,hx=>by simp only [ze6,qh] at hx; subst hx; exact ht
 | y::r,h,x,hx=>by
  unfold ze6 at hx;split at hx
  ·rcases qd.1 hx with rfl | hx
   ·exact h _ (by simp)
   ·exact zbdo ht (λz hz=>h z (by simp [hz])) x hx
  ·split at hx
   ·rcases qd.1 hx with rfl | hx
    ·exact zbby (h y (by simp)).1 ht.1
    ·exact h x (by simp [hx])
   ·rcases qd.1 hx with rfl | hx
    ·exact ht
    ·exact h x hx
theorem zbh8:∀ (b:yC) {a:yC},(∀ x∈a,cOK x)->(∀ x∈b,cOK x)->∀ x∈zdS a b,cOK x
 | [],a,ha,_=>ha
 | t::r,a,ha,hb=>zbh8 r (zbdo (hb t (by simp)) ha) λx hx=>hb x (by simp [hx])
theorem zTW {t:Term}:∀ (l:yC),(ze6 t l).length<=l.length+1
 | []=>by simp [ze6]
 | x::r=>by
  have:=zTW (t:=t) r;unfold ze6;split
  ·simp only [qf]; omega
  ·split <;>simp
theorem zwn:∀ (b a:yC),(zdS a b).length<=a.length+b.length
 | [],a=>by simp [zdS]
 | t::r,a=>by
  have h1:=zwn r (ze6 t a);have h2:=zTW (t:=t) a;show (zdS (ze6 t a) r).length<=_;simp only [qf]; omega
def cF (x y:Fc):Int:=zba (zdm x.At) (zdm y.At)
theorem zbgy {x y:Fc} (h:cF x y=0):x.At=y.At:=zVT _ _ (ztQ _ _ h)
theorem zblA (x y:Fc):cF y x= - cF x y:=zg1 _ _
theorem zbcy {a b c:TT} (h1:zba a b<0) (h2:zba b c<0):zba a c<0:=by
 have h:=zyi a b c (by omega) (by omega)
 by_cases e:zba a c=0
 ·have e':=ztQ a c e;subst e';have:=zg1 a b;omega
 ·omega
theorem zI1 {x y z:Fc} (h1:cF x y<0) (h2:cF y z<0):cF x z<0:=zbcy h1 h2
abbrev Srf (l:yD):Prop:=l.Pairwise λx y=>cF x y<0
def zLA (f:Fc):yD->yD
 | []=>[f]
 | x::r=>if cF x f<0 then x::zLA f r else if cF x f=0 then (if f.At.Kind<3 then ⟨f.At,x.Exp+f.Exp⟩ else f)::r else f::x::r
def zbW:yD->yD->yD
 | [],b=>b
 | x::a,[]=>x::a
 | x::a,y::b=>if cF x y<0 then x::zbW a (y::b) else if 0<cF x y then y::zbW (x::a) b else (if x.At.Kind=3\/x.At.Kind=4 then x else ⟨x.At,x.Exp+y.Exp⟩)::zbW a b
termination_by a b=>a.length+b.length
theorem zRE (a:yD):zbW a []=a:=by cases a <;>rw [zbW]
theorem zPc {m:Fc} {L b:yD} (h:∀ z∈b,cF m z<0):zbW (m::L) b=m::zbW L b:=by
 cases b with
 | nil=>rw [zRE,zRE]
 | cons z b=>rw [zbW,if_pos (h z (by simp))]
def eOK (f:Fc):Prop:=(0<=f.At.Kind/\f.At.Kind<=4)/\(f.At.Kind=3\/f.At.Kind=4->f.Exp=1)
theorem zbei {y:Fc} {b:yD} (hb:∀ z∈b,cF y z<0) (hy:eOK y):∀ {a:yD},(∀ x∈a,eOK x)->zbW (zLA y a) b=zbW a (y::b)
 | [],_=>by
  rw [zLA,zPc hb,zbW,zbW]
 | x::a,ha=>by
  unfold zLA;by_cases h1:cF x y<0
  ·rw [if_pos h1,zPc λz hz=>zI1 h1 (hb z hz),zbei hb hy λz hz=>ha z (by simp [hz]),zPc (m:=x) (b:=y::b) λz hz=>by
    rcases qd.1 hz with rfl | hz
    ·exact h1
    ·exact zI1 h1 (hb z hz)]
  ·rw [if_neg h1];by_cases h2:cF x y=0
   ·have ea:=zbgy h2
    rw [if_pos h2,zPc λz hz=>by
     have e:(if y.At.Kind<3 then (⟨y.At,x.Exp+y.Exp⟩:Fc) else y).At=y.At:=by split <;>rfl
     have:=hb z hz;unfold cF at this ⊢; rw [e]; exact this]
    rw [zbW,if_neg h1,if_neg (show ¬ 0<cF x y by omega)]
    congr 1;have hx:=ha x (by simp)
    obtain ⟨xa,xe⟩:=x;obtain ⟨ya,ye⟩:=y;simp only at ea;subst ea;obtain ⟨⟨k0,k4⟩,h3⟩:=hx;obtain ⟨_,h3'⟩:=hy;simp only at k0 k4 h3 h3' ⊢;by_cases hk:xa.Kind<3
    ·rw [if_pos hk,if_neg (by omega)]
    ·have hk':xa.Kind=3\/xa.Kind=4:=by omega
     rw [if_neg hk,if_pos hk',h3 hk',h3' hk']
   ·rw [if_neg h2,zPc hb];rw [zbW,if_neg h1,if_pos (by omega)]
theorem zWC:∀ (b a:yD),Srf b->(∀ x∈a,eOK x)->(∀ x∈b,eOK x)->b.foldl (λl f=>zLA f l) a=zbW a b
 | [],a,_,_,_=>by rw [zRE]; rfl
 | y::b,a,hs,ha,hb=>by
  have hc:=qi.1 hs;have hy:=hb y (by simp)
  rw [List.foldl_cons,zWC b (zLA y a) hc.2 (λx hx=> ?_) λx hx=>hb x (by simp [hx]),zbei hc.1 hy ha]
  -- kinds and exponents are kept
  clear hs hc hb;induction a with
  | nil=>simp only [zLA,qh] at hx; subst hx; exact hy
  | cons z r ih=>
   unfold zLA at hx;split at hx
   ·rcases qd.1 hx with rfl | hx
    ·exact ha _ (by simp)
    ·exact ih (λw hw=>ha w (by simp [hw])) hx
   ·split at hx
    ·rcases qd.1 hx with rfl | hx
     ·split
      ·rename_i hk; exact ⟨hy.1,λh=>by simp only at h; omega⟩
      ·exact hy
     ·exact ha x (by simp [hx])
    ·rcases qd.1 hx with rfl | hx
     ·exact hy
     ·exact ha x hx
theorem zrJ {x:Fc}:∀ {a b:yD},x∈zbW a b->∃ y,(y∈a\/y∈b)/\x.At=y.At
 | [],b,h=>⟨x,.inr (by rwa [zbW] at h),rfl⟩
 | y::a,[],h=>⟨x,.inl (by rwa [zbW] at h),rfl⟩
 | y::a,z::b,h=>by
  rw [zbW] at h;split at h
  ·rcases qd.1 h with rfl | h
   ·exact ⟨x,.inl (by simp),rfl⟩
   ·obtain ⟨w,hw,e⟩:=zrJ h;rcases hw with hw | hw
    ·exact ⟨w,.inl (by simp [hw]),e⟩
    ·exact ⟨w,.inr hw,e⟩
  ·split at h
   ·rcases qd.1 h with rfl | h
    ·exact ⟨x,.inr (by simp),rfl⟩
    ·obtain ⟨w,hw,e⟩:=zrJ h;rcases hw with hw | hw
     ·exact ⟨w,.inl hw,e⟩
     ·exact ⟨w,.inr (by simp [hw]),e⟩
   ·rcases qd.1 h with rfl | h
    ·exact ⟨y,.inl (by simp),by split <;>rfl⟩
    ·obtain ⟨w,hw,e⟩:=zrJ h;rcases hw with hw | hw
     ·exact ⟨w,.inl (by simp [hw]),e⟩
     ·exact ⟨w,.inr (by simp [hw]),e⟩
termination_by a b=>a.length+b.length
theorem zPm:∀ (a b:yD),(zbW a b).length<=a.length+b.length
 | [],b=>by rw [zbW]; simp
 | y::a,[]=>by rw [zbW]; simp
 | y::a,z::b=>by
  rw [zbW];split
  ·have:=zPm a (z::b); simp only [qf] at this ⊢; omega
  ·split
   ·have:=zPm (y::a) b; simp only [qf] at this ⊢; omega
   ·have:=zPm a b; simp only [qf] at this ⊢; omega
termination_by a b=>a.length+b.length
theorem zO6 {x:Fc} {B:Int}:∀ {a b:yD},(∀ y∈a,1<=y.Exp/\y.Exp<=B)->(∀ y∈b,1<=y.Exp/\y.Exp<=B)->x∈zbW a b->1<=x.Exp/\x.Exp<=2*B
 | [],b,ha,hb,h=>by rw [zbW] at h; have:=hb x h; omega
 | y::a,[],ha,hb,h=>by rw [zbW] at h; have:=ha x h; omega
 | y::a,z::b,ha,hb,h=>by
  have hy:=ha y (by simp)
  have hz:=hb z (by simp)
  rw [zbW] at h;split at h
  ·rcases qd.1 h with rfl | h
   ·omega
   ·exact zO6 (λw hw=>ha w (by simp [hw])) hb h
  ·split at h
   ·rcases qd.1 h with rfl | h
    ·omega
    ·exact zO6 ha (λw hw=>hb w (by simp [hw])) h
   ·rcases qd.1 h with rfl | h
    ·split
     ·omega
     ·simp only; omega
    ·exact zO6 (λw hw=>ha w (by simp [hw])) (λw hw=>hb w (by simp [hw])) h
termination_by a b=>a.length+b.length
def zBW (a b:Int):Int:=if Int.tdiv 1152921504606846976 b<a then 1152921504606846976 else a*b
def zmy (x y:Term):Term:=⟨zBW x.Cf y.Cf,zbW x.Fs y.Fs⟩
def zey (a b:yC):yC:=a.flatMap λx=>b.map (zmy x)
def zlH (a b:yC):yC:=zdS [] (zey a b)
theorem zVZ {a b:Int} (ha:1<=a/\a<=1152921504606846976) (hb:1<=b/\b<=1152921504606846976):(1<=zBW a b/\zBW a b<=1152921504606846976)/\(¬ Int.tdiv 1152921504606846976 b<a->a*b<=1152921504606846976):=by
 have h1:¬ Int.tdiv 1152921504606846976 b<a->a*b<=1152921504606846976:=λh=>by
  rw [Int.tdiv_eq_ediv_of_nonneg (by omega)] at h
  have h2:a<=1152921504606846976 / b:=by omega
  exact (Int.le_ediv_iff_mul_le (by omega)).1 h2
 refine ⟨?_,h1⟩;unfold zBW;split
 ·omega
 ·rename_i h;refine ⟨?_,h1 h⟩;have:=Int.mul_le_mul ha.1 hb.1 (by omega) (by omega)
  omega
theorem zKE {t:Term} {a b:yC} (h:t∈zey a b):∃ x∈a,∃ y∈b,t=zmy x y:=by
 obtain ⟨x,hx,ht⟩:=List.mem_flatMap.1 h;obtain ⟨y,hy,rfl⟩:=List.mem_map.1 ht;exact ⟨x,hx,y,hy,rfl⟩
theorem zRX (a b:yC):(zey a b).length=a.length*b.length:=by
 unfold zey;induction a with
 | nil=>simp
 | cons x r ih=>rw [List.flatMap_cons,qg,ih,List.length_map,qf,Nat.add_mul]; omega
section
variable {α β ρ τ:Type} [Inhabited τ]
theorem z2H (p:τ->Bool):∀ l:List τ,l.take (l.takeWhile p).length=l.takeWhile p
 | []=>rfl
 | x::r=>by
  rw [List.takeWhile_cons];cases p x with
  | true=>simp [z2H p r]
  | false=>simp
theorem z2R (p:τ->Bool):∀ l:List τ,l.drop (l.takeWhile p).length=l.dropWhile p
 | []=>rfl
 | x::r=>by
  rw [List.takeWhile_cons,List.dropWhile_cons];cases p x with
  | true=>simp [z2R p r]
  | false=>simp
theorem zbn7 (p:τ->Bool) (l:List τ):(l.takeWhile p).length<=l.length:=(List.takeWhile_prefix p).length_le
theorem zbbE {W:α->β->Wy α β ρ} {z:ρ} (l:List τ) (p:τ->Bool) (ex:Nat->α) (ey:Nat->β) (res:Nat->ρ)
  (h:∀ i,i<l.length->∀ (H:α->β->Bool×ρ) K D,(W (ex i) (ey i)).ev H K D=bif p (l.getD i default) then H (ex (i+1)) (ey (i+1)) else K (res i))
  (he:∀ (H:α->β->Bool×ρ) K D,(W (ex l.length) (ey l.length)).ev H K D=K (res l.length)):
  ∀ n i,l.length<i+n->i<=l.length->zy W z n (ex i) (ey i)=(true,res (i+((l.drop i).takeWhile p).length))
 | 0,i,h1,h2=>by omega
 | n+1,i,h1,h2=>by
  show (W (ex i) (ey i)).ev (zy W z n) (λr=>(true,r)) (false,z)=_
  by_cases hi:i<l.length
  ·rw [h i hi,zbx hi,List.takeWhile_cons];cases hp:p (l.getD i default) with
   | false=>simp
   | true=>
    rw [cond_true,zbbE l p ex ey res h he n (i+1) (by omega) (by omega)]
    simp only [if_true,qf];congr 2; omega
  ·have:i=l.length:=by omega
   subst this;rw [he,zcO hi]; rfl
theorem zW9 {W:α->β->Wy α β ρ} {z:ρ} (l:List τ) (p:τ->Bool) (ex:Nat->α) (ey:Nat->β) (res:Nat->ρ)
  (h:∀ i,i<l.length->∀ (H:α->β->Bool×ρ) K D,(W (ex i) (ey i)).ev H K D=bif p (l.getD i default) then H (ex (i+1)) (ey (i+1)) else K (res i))
  (he:∀ (H:α->β->Bool×ρ) K D,(W (ex l.length) (ey l.length)).ev H K D=K (res l.length)) (n:Nat) (hn:l.length<n):
  zy W z n (ex 0) (ey 0)=(true,res (l.takeWhile p).length):=by
 have:=zbbE (z:=z) l p ex ey res h he n 0 (by omega) (by omega)
 simpa using this
def zXI (p:τ->Bool) (x:τ) (l:List τ):List τ:=l.takeWhile p++x::l.dropWhile p
theorem zbbT (p:τ->Bool) (x y:τ) (r:List τ):zXI p x (y::r)=bif p y then y::zXI p x r else x::y::r:=by
 unfold zXI;rw [List.takeWhile_cons,List.dropWhile_cons];cases p y <;>simp
theorem zKq (p:τ->Bool) (x:τ):∀ l:List τ,(zXI p x l).Perm (x::l)
 | []=>.refl _
 | y::r=>by
  rw [zbbT];cases p y
  ·exact .refl _
  ·exact ((zKq p x r).cons y).trans (.swap x y r)
abbrev Srt (key:τ->TT) (l:List τ):Prop:=l.Pairwise λx y=>zba (key x) (key y)<=0
theorem zbeE (key:τ->TT) (x:τ):∀ l:List τ,Srt key l->Srt key (zXI (λy=>decide (zba (key y) (key x)<=0)) x l)
 | [],_=>by simp [zXI]
 | y::r,h=>by
  have h:=qi.1 h;rw [zbbT];by_cases hp:zba (key y) (key x)<=0
  ·rw [decide_eq_true hp];refine qi.2 ⟨λz hz=> ?_,zbeE key x r h.2⟩
   rcases qd.1 ((zKq _ x r).mem_iff.1 hz) with rfl | hz
   ·exact hp
   ·exact h.1 z hz
  ·rw [decide_eq_false hp];have hxy:zba (key x) (key y)<=0:=by have:=zg1 (key x) (key y); omega
   refine qi.2 ⟨λz hz=> ?_,qi.2 h⟩
   rcases qd.1 hz with rfl | hz
   ·exact hxy
   ·exact zyi _ _ _ hxy (h.1 z hz)
end
theorem zbad {τ:Type} (l:List τ) (k:Nat):List.take (k - Int.toNat 0) (List.drop (Int.toNat 0) l)=l.take k:=by simp
theorem zFa {τ:Type} (l:List τ) (k:Nat):List.take ((Int.ofNat l.length).toNat - k) (List.drop k l)=l.drop k:=by
 simp only [Int.ofNat_eq_natCast,Int.toNat_natCast];rw [List.take_of_length_le (by simp)]
theorem zbeF (n:Nat):(n==0)= !decide (0<n):=by cases n <;>simp
def zma (w:Wd):Bool:=decide (0<w.Ann.length)
def zeb (l:yE):yE:=zhp zbm (l.filter zma)
theorem zOR {d:Nat} {l:yE} (hl:l.length<=1000000) (h:∀ w∈l,zm d w.Ann) (hd:d<=99):SortOK zbm l:=by
 have e:∀ x∈l,∀ y,zbm x y=(true,zba (zbi x) (zbi y)):=λx hx y=>zki (h x hx) hd y
 refine ⟨by omega,λx hx y _=>by rw [e x hx],λx hx=> ?_,λx hx y hy z hz h1 h2=> ?_,λx hx y hy z hz h1 h2=> ?_,λx hx y hy h1 h2=> ?_⟩
 ·rw [e x hx,zFq]; omega
 ·rw [e x hx] at h1 ⊢; rw [e y hy] at h2;have h3:=zyi _ _ _ (show zba (zbi x) (zbi y)<=0 by simp only at h1; omega) (show zba (zbi y) (zbi z)<=0 by simp only at h2; omega)
  simp only at h1 h2 ⊢;by_cases e0:zba (zbi x) (zbi z)=0
  ·have:=ztQ _ _ e0;rw [<- this,zg1 (zbi x) (zbi y)] at h2;omega
  ·omega
 ·rw [e x hx] at h1 ⊢; rw [e y hy] at h2;simp only at h1 h2 ⊢;have a1:=zg1 (zbi x) (zbi y);have a2:=zg1 (zbi y) (zbi z);have a3:=zg1 (zbi x) (zbi z);have:=zyi (zbi z) (zbi y) (zbi x) (by omega) (by omega)
  omega
 ·rw [e x hx] at h1; rw [e y hy] at h2;simp only at h1 h2;have a1:=zg1 (zbi x) (zbi y);exact z7K _ _ (ztQ _ _ (by omega))
theorem zbmv {d:Nat} (l:yE) (hl:l.length<=1000000) (h:∀ w∈l,zm d w.Ann) (hd:d<=99) (n:Nat) (hn:l.length<n):zH6 n l l.length 0 []=(true,l.filter zma):=by
 have hreach:zG=70368744177664:=rfl;have hfl:∀ i,(List.filter zma (l.take i)).length<=1000000:=λi=>Nat.le_trans (List.length_filter_le _ _) (Nat.le_trans (by simp; omega) hl)
 have:=zdW (W:=zz1) (z:=default) l.length (λi=>((),l,(l.length:Int),(i:Int),())) (λi=>((l.take i).filter zma,())) (λ_=>true) default (l.filter zma)
  (λi hi H K D=>by
   show (zmP l l.length i ((l.take i).filter zma)).ev H K D=_;unfold zmP;have hb2:decide (((List.filter zma (l.take i)).length+1)*56<=zG)=true:=by have:=hfl i; simp only [qe]; omega
   have hgt:decide (((l.getD i default).Ann.length:Int)>0)=zma (l.getD i default):=zrH _ 0;simp only [Wy.ev_i,Wy.ev_k,Wy.ev_h,Wy.ev_bn,Wy.ev_d,tT,hi,zK3 (h _ (zr hi)) (by omega:d<=100),hgt,List.length_singleton,hb2]
   rw [zN (by omega),ziL hi,List.filter_append,List.filter_cons]
   cases zma (l.getD i default) with
   | true=>simp
   | false=>simp)
  (λH K D=>by
   show (zmP l l.length l.length ((l.take l.length).filter zma)).ev H K D=_;unfold zmP;simp only [Wy.ev_i,Wy.ev_k,tT,Nat.lt_irrefl,List.take_length]) n hn
 rw [show zek (λ_=>true) l.length 0=true from zdV.2 λ_ _ _=>rfl] at this
 exact this
theorem zbke {d:Nat} (l:yE) (hl:l.length<=1000000) (h:∀ w∈l,zm d w.Ann) (hd:d<=99) (h20:(l.filter zma).length<20):zr8 l=(true,zeb l):=by
 unfold zr8 zKO zbu zeb;have:=zbmv l hl h hd (l.length+(Int.ofNat l.length).toNat +Int.toNat (0:Int)+(0:Nat)+(1:Nat)) (by omega)
 rw [show Int.ofNat l.length=(l.length:Int) from rfl] at *
 have ok:SortOK zbm (l.filter zma):=zOR (d:=d) (by omega) (λw hw=>h w (List.mem_filter.1 hw).1) hd
 rw [Wy.fin_bn,this];simp only [Wy.fin_bn,Wy.fin_k,cond_true,decide_eq_true ok,decide_eq_true h20,Bool.and_self]
def zAM (w:Wd) (out:yE):yE:=bif zma w then zXI (λy=>decide (zba (zbi y) (zbi w)<=0)) w out else out
theorem zbk6 {d:Nat} (l:yE) (i:Nat) (hi:i<l.length) (hl:l.length<=1000000) (out:yE) (ho:out.length<=1000000) (h:∀ w∈out,zm d w.Ann) (hd:d<=99) (n:Nat) (hn:out.length<n):
  zU1 n l i 0 out=(true,(l,(i:Int),(((out.takeWhile λy=>decide (zba (zbi y) (zbi (l.getD i default))<=0)).length:Nat):Int),out)):=by
 exact zW9 (W:=zIw) (z:=default) out (λy=>decide (zba (zbi y) (zbi (l.getD i default))<=0)) (λk=>(l,(),(i:Int),(k:Int),())) (λ_=>(out,())) (λk=>(l,(i:Int),(k:Int),out))
  (λk hk H K D=>by
   show (zwX l i k out).ev H K D=_;unfold zwX;have e1:(decide ((k:Int)<=((k+1:Nat):Int))&&decide (((k+1:Nat):Int)<=Int.ofNat out.length))=true:=by simp; try omega
   have e2:(decide ((i:Int)<=((i+1:Nat):Int))&&decide (((i+1:Nat):Int)<=Int.ofNat l.length))=true:=by simp; try omega
   have e3:decide ((k:Int)<Int.ofNat out.length)=true:=by simp [hk]
   simp only [Wy.ev_i,Wy.ev_k,Wy.ev_h,Wy.ev_bn,Wy.ev_d,zN (show k<4611686018427387904 by omega),zN (show i<4611686018427387904 by omega),e1,e2,e3,zfq,Bool.true_and,cond_true,Int.toNat_natCast,show k+1 - k=1 by omega,show i+1 - i=1 by omega,zbdl _ _ hi,zbdl _ _ hk]
   rw [zFb (d:=d) (by simp) (λw hw=>by
    rw [qh] at hw; subst hw; exact h _ (zr hk)) hd,znl,znl]
   simp only [List.map,zbla,cond_true])
  (λH K D=>by
   show (zwX l i out.length out).ev H K D=_;unfold zwX;have e3:decide ((out.length:Int)<Int.ofNat out.length)=false:=by simp
   simp only [Wy.ev_i,Wy.ev_k,e3,cond_false]) n hn
theorem zbiM (w:Wd) (out:yE):(zAM w out).length<=out.length+1:=by
 unfold zAM;cases zma w with
 | false=>simp
 | true=>simp only [cond_true]; rw [(zKq _ w out).length_eq]; simp
theorem zbjK {w y:Wd} {out:yE} (h:y∈zAM w out):y=w\/y∈out:=by
 unfold zAM at h;cases hb:zma w with
 | false=>rw [hb] at h; exact .inr h
 | true=>rw [hb] at h; exact qd.1 ((zKq _ w out).mem_iff.1 h)
theorem zbjT {d:Nat} (l:yE) (hl:l.length<=1000000) (h:∀ w∈l,zm d w.Ann) (hd:d<=99) (n:Nat) (hn:l.length<n):zTS n l 0 []=(true,l.foldl (λout w=>zAM w out) []):=by
 have hreach:zG=70368744177664:=rfl
 have:=zc8 (W:=zIo) (z:=default) (l:=l) (λi (out:yE)=>(l,(),(i:Int),())) (λ_ out=>(out,())) (λw out=>.inl (zAM w out)) (λout=>out) (λi out=>out.length<=i/\∀ w∈out,zm d w.Ann)
  (λi out hi hI=>.inl ⟨_,rfl,⟨by have:=zbiM (l.getD i default) out; omega,λw hw=>by
    rcases zbjK hw with rfl | hw
    ·exact h _ (zr hi)
    ·exact hI.2 w hw⟩,λH K D=>by
   show (zw3 l i out).ev H K D=_;unfold zw3;have e0:((l.getD i default).Ann.length==0)= !zma (l.getD i default):=zbeF _;have e3:decide ((i:Int)<Int.ofNat l.length)=true:=by simp [hi]
   simp only [Wy.ev_i,Wy.ev_k,Wy.ev_h,Wy.ev_bn,Wy.ev_d,e3,zfq,Bool.and_self,cond_true,Int.toNat_natCast,show (Int.ofNat (l.getD i default).Ann.length==(0:Int))=((l.getD i default).Ann.length==0) from zyj _ 0,e0]
   rw [zbk6 l i hi hl out (by omega) hI.2 hd _ (by omega)]
   simp only [cond_true,zbad,zFa,List.nil_append,Int.toNat_natCast,e3,zfq,Bool.and_self,Int.le_refl,decide_true,Bool.true_and,Bool.and_true];have q1:=zbn7 (λy=>decide (zba (zbi y) (zbi (l.getD i default))<=0)) out
   have q2:decide (((out.takeWhile λy=>decide (zba (zbi y) (zbi (l.getD i default))<=0)).length:Int)<=Int.ofNat out.length)=true:=by simp only [qe,Int.ofNat_eq_natCast]; omega
   have hb1:decide ((0+(out.take (out.takeWhile λy=>decide (zba (zbi y) (zbi (l.getD i default))<=0)).length).length)*56<=zG)=true:=by simp only [qe,List.length_take]; omega
   have hb2:decide (((out.take (out.takeWhile λy=>decide (zba (zbi y) (zbi (l.getD i default))<=0)).length).length+[l.getD i default].length)*56<=zG)=true:=by simp only [qe,List.length_take,List.length_singleton]; omega
   have hb3:decide (((out.take (out.takeWhile λy=>decide (zba (zbi y) (zbi (l.getD i default))<=0)).length++[l.getD i default]).length+(out.drop (out.takeWhile λy=>decide (zba (zbi y) (zbi (l.getD i default))<=0)).length).length)*56<=zG)=true:=by simp only [qe,qg,List.length_take,List.length_singleton,List.length_drop]; omega
   simp only [q2,hb1,hb2,hb3,cond_true];rw [zN (by omega),z2H,z2R]
   unfold zAM zXI;cases zma (l.getD i default) <;>simp⟩)
  (λout hI H K D=>by
   show (zw3 l l.length out).ev H K D=_;unfold zw3;have e3:decide ((l.length:Int)<Int.ofNat l.length)=false:=by simp
   simp only [Wy.ev_i,Wy.ev_k,e3,cond_false]) n 0 [] (by omega) (by omega) ⟨by simp,λw hw=>by cases hw⟩
 rw [List.drop_zero,zc9] at this;exact this
theorem z9P:∀ (l out:yE),(l.foldl (λout w=>zAM w out) out).Perm (l.filter zma++out)/\(Srt zbi out->Srt zbi (l.foldl (λout w=>zAM w out) out))
 | [],out=>⟨.refl _,λh=>h⟩
 | w::r,out=>by
  obtain ⟨h1,h2⟩:=z9P r (zAM w out);rw [List.foldl_cons,List.filter_cons];cases hb:zma w with
  | false=>
   have e:zAM w out=out:=by unfold zAM; rw [hb]; rfl
   rw [e] at h1 h2 ⊢;exact ⟨by simpa using h1,h2⟩
  | true=>
   have e:zAM w out=zXI (λy=>decide (zba (zbi y) (zbi w)<=0)) w out:=by unfold zAM; rw [hb]; rfl
   rw [e] at h1 h2 ⊢;refine ⟨?_,λh=>h2 (zbeE zbi w out h)⟩
   simp only [if_true,List.cons_append];exact h1.trans (((zKq _ w out).append_left _).trans List.perm_middle)
theorem zbjH {d:Nat} (l:yE) (hl:l.length<=1000000) (h:∀ w∈l,zm d w.Ann) (hd:d<=99):zDP l=(true,zeb l):=by
 unfold zDP zX2;rw [Wy.fin_bn,zbjT l hl h hd _ (by omega)]
 simp only [cond_true,Wy.fin_k];congr 1;obtain ⟨h1,h2⟩:=z9P l [];rw [List.append_nil] at h1;have hm:∀ w∈l.filter zma,zm d w.Ann:=λw hw=>h w (List.mem_filter.1 hw).1
 refine (zOR (d:=d) (Nat.le_trans (List.length_filter_le _ _) hl) hm hd).unique h1 ?_;refine (h2 .nil).imp_of_mem λ{x y} hx hy hxy=> ?_
 rw [zki (hm y (h1.mem_iff.1 hy)) hd,zg1 (zbi x) (zbi y)];simp only; omega
def zSG (op sign:Int):Bool:=bif op==5 then sign==0 else bif op==6 then sign != 0 else bif op==7 then decide (sign<0) else bif op==8 then decide (sign<=0) else bif op==9 then decide (sign>0) else decide (sign≥0)
theorem zbj7 (op sign:Int):zrT op sign=(true,zSG op sign):=by
 unfold zrT zKB zSG;simp only [Wy.fin_i,Wy.fin_k];cases op==5 <;>cases op==6 <;>cases op==7 <;>cases op==8 <;>cases op==9 <;>rfl
theorem zbim {op sign:Int} (h1:5<=op) (h2:op<=10):zzp op sign=(true,zSG op sign):=by
 unfold zzp zRL zSG;simp only [Wy.fin_i,Wy.fin_k,zhe];by_cases a1:op=5
 ·simp [a1]
 by_cases a2:op=6
 ·simp [a2]
 by_cases a3:op=7
 ·simp [a3]
 by_cases a4:op=8
 ·simp [a4]
 by_cases a5:op=9
 ·simp [a5]
 have a6:op=10:=by omega
 simp [a6]
def zTn (fn:Int) (l:yE) (op:Int) (b:Value):At:=⟨4,⟨0,0⟩,[],fn,l,op,b⟩
def zy3 (fn:Int) (items:yE) (op:Int) (b:Value):yC×Int:=
 bif !(zDv fn items op b&&items.all λw=>zF w.Ann) then ([],1) else
 bif decide (0<(zeb items).length) then znT (zcu (zTn fn (zeb items) op b)) else
 bif fn==0&&zSG op (zd3 0 b.Int) then ([⟨1,[]⟩],0) else ([],0)
theorem zNZ {l:yE} {w:Wd} (h:w∈zeb l):w∈l/\w.Ann≠[]:=by
 have:=(zkg _ _).mem_iff.1 h;obtain ⟨h1,h2⟩:=List.mem_filter.1 this;refine ⟨h1,λe=> ?_⟩
 rw [zma,e] at h2; simp at h2
theorem z7N (l:yE):(zeb l).length=(l.filter zma).length:=(zkg _ _).length_eq
theorem z2x {B:Nat}:∀ l:yE,(∀ w∈l,zK w.Ann<=B)->zdo l<=l.length*(B+1)
 | [],_=>by rw [zfQ]; simp
 | w::r,h=>by
  rw [zin,qf];have h1:=h w (by simp)
  have h2:=z2x r λw hw=>h w (by simp [hw])
  rw [Nat.add_mul]; omega
theorem zOX {fn:Int} {l:yE} {op:Int} {b:Value} (hl:l.length<=1000000) (hf:zDv fn l op b=true) (hv:(l.all λw=>zF w.Ann)=true):zm 10 (zcu (zTn fn (zeb l) op b))/\zK (zcu (zTn fn (zeb l) op b))<=4611686018427387904:=by
 obtain ⟨_,hb,hit⟩:=zuk hf;have hvv:∀ w∈l,zF w.Ann=true:=λw hw=>List.all_eq_true.1 hv w hw
 have hlen:(zeb l).length<=1000000:=by rw [z7N]; exact Nat.le_trans (List.length_filter_le _ _) hl
 constructor
 ·refine zRx ⟨⟨by simp [zTn],hlen,by have:=zxP hb; simp only [zTn]; omega⟩,λy hy=>(by cases hy),λw hw=> ?_⟩
  have hm:=(zNZ hw).1;exact ⟨by have:=zxP (hit w hm).1; omega,(zeJ (hvv w hm)).1⟩
 ·rw [z7p,zhu];have h1:zdo (zeb l)<=(zeb l).length*(4096+1):=z2x _ λw hw=>(zeJ (hvv w (zNZ hw).1)).2.1
  show 2+(zfo []+zdo (zeb l))<=_;rw [zgO];have:=Nat.mul_le_mul hlen (Nat.le_refl (4096+1));omega
theorem zblB {d:Nat} (l:yE) (hl:l.length<=1000000) (h:∀ w∈l,zm d w.Ann/\zK w.Ann<=4611686018427387904) (hd:d<=99):zcj l=(true, !l.all λw=>zF w.Ann):=by
 unfold zcj zg9;have:zdv l=IG (λ(_:Unit) x=>znO x) (l.length+(Int.ofNat l.length).toNat +Int.toNat (0:Int)+(1:Nat)) () l:=rfl
 rw [zlh (P:=λw=> !zF w.Ann) (this.trans (zNh _ _ _ _ _ (by omega) (λx hx=>by
  unfold znO zG3;rw [Wy.fin_bn,zbbM (h x hx).1 (by omega) (h x hx).2]; rfl) (by omega)))]
 simp [List.all_eq_not_any_not]
theorem zbmI {d:Nat} (fn:Int) (l:yE) (op:Int) (b:Value) (hl:l.length<=1000000) (h:∀ w∈l,zm d w.Ann/\zK w.Ann<=4611686018427387904) (hd:d<=99) (h20:(l.filter zma).length<20):
  zoD fn l op b=(true,zy3 fn l op b):=by
 unfold zoD zMK zy3;have hI:=zbke l hl (λw hw=>(h w hw).1) hd h20
 have hgt:decide (Int.ofNat (zeb l).length>0)=decide (0<(zeb l).length):=zrH _ 0;simp only [Wy.fin_bn,Wy.fin_i,Wy.fin_k,z78 fn l op b hl,zblB l hl h hd,hI,cond_true,hgt];cases hf:zDv fn l op b with
 | false=>rfl
 | true=>
  cases hv:l.all λw=>zF w.Ann with
  | false=>rfl
  | true=>
   simp only [Bool.not_true,cond_false,Bool.and_self];rw [zK5];have hx:(⟨4,⟨0,0⟩,[],fn,zeb l,op,b⟩:At)=zTn fn (zeb l) op b:=rfl;rw [hx,zCM (zOX hl hf hv).1 (by omega) (zOX hl hf hv).2]
   cases decide (0<(zeb l).length) with
   | true=>rfl
   | false=>
    simp only [cond_false,zyw,zbj7,cond_true];cases fn==0 with
    | false=>rfl
    | true=>
     cases zSG op (zd3 0 b.Int) <;>rfl
theorem zbdE {d:Nat} (fn:Int) (l:yE) (op:Int) (b:Value) (hl:l.length<=1000000) (h:∀ w∈l,zm d w.Ann/\zK w.Ann<=4611686018427387904) (hd:d<=99):
  zyD fn l op b=(true,zy3 fn l op b):=by
 unfold zyD z1O zy3;have hI:=zbjH l hl (λw hw=>(h w hw).1) hd
 have hgt:decide (0<(zeb l).length)= !((zeb l).length==0):=by rw [zbeF,Bool.not_not]
 have hL:zYs (fn.toNat +l.length+op.toNat +Int.toNat (0:Int)+(1:Nat)) fn l op (0:Int) b=(true,bif l.all λw=>zF w.Ann then .inr (fn,l,op,b) else .inl 1):=by
  have:=zdW (W:=zLH) (z:=.inl default) l.length (λi=>(fn,l,op,(),(i:Int),())) (λ_=>(b,())) (λi=>(λw:Wd=>zF w.Ann) (l.getD i default)) (.inl 1) (.inr (fn,l,op,b))
   (λi hi H K D=>by
    show (zzq fn l op i b).ev H K D=_;unfold zzq;have hx:=h _ (zr hi);simp only [Wy.ev_i,Wy.ev_k,Wy.ev_h,Wy.ev_bn,Wy.ev_d,tT,hi,z8S hx.1 (by omega) hx.2]
    rw [zN (by omega)]
    cases zF (l.getD i default).Ann <;>rfl)
   (λH K D=>by
    show (zzq fn l op l.length b).ev H K D=_;unfold zzq;simp only [Wy.ev_i,Wy.ev_k,tT,Nat.lt_irrefl]) (fn.toNat +l.length+op.toNat +Int.toNat (0:Int)+(1:Nat)) (by omega)
  rw [zBS (λw:Wd=>zF w.Ann)] at this
  exact this
 simp only [Wy.fin_bn,Wy.fin_i,Wy.fin_k,zbeC fn l op b hl,hL,cond_true,hgt];cases hf:zDv fn l op b with
 | false=>rfl
 | true=>
  cases hv:l.all λw=>zF w.Ann with
  | false=>rfl
  | true=>
   simp only [Bool.not_true,cond_false,cond_true,Bool.and_self,isL,getR,hI];rw [show (Int.ofNat (zeb l).length==(0:Int))=((zeb l).length==0) from zyj _ 0,zFM]
   have hx:(⟨4,⟨0,0⟩,[],fn,zeb l,op,b⟩:At)=zTn fn (zeb l) op b:=rfl;rw [hx,zBn (zOX hl hf hv).1 (by omega) (zOX hl hf hv).2]
   cases ((zeb l).length==0) with
   | false=>rfl
   | true=>
    obtain ⟨⟨_,_,o1,o2⟩,_⟩:=zuk hf;simp only [cond_false,Bool.not_true,zok,zbim o1 o2,cond_true];cases fn==0 with
    | false=>rfl
    | true=>
     cases zSG op (zd3 0 b.Int) <;>rfl
end Go.Proofs.YtljlfiomikifjaaGreatDoor
end
