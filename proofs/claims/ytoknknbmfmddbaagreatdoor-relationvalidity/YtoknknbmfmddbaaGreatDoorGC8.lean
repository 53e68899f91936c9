/- Texts of this claim, joined (the program, its functions in plain words, and what they compute). -/
import Derived.Test.YtoknknbmfmddbaaGreatDoorGC7
set_option autoImplicit false
set_option linter.unusedVariables false
set_option linter.unusedSectionVars false
set_option linter.unusedSimpArgs false
set_option maxRecDepth 1000000
set_option maxHeartbeats 0
/- The texts of annotations: what the program's texts are. -/
noncomputable section
namespace Go.Proofs.YtoknknbmfmddbaaGreatDoor
open Go Go.Ab
def txV (v:Value):List UInt8:=if v.Kind=0 then zeN v.Int else if v.Kind=1 then 39::(v.Text.data.toList.flatMap esc++[39]) else if v.Int=1 then [84,82,85,69] else [70,65,76,83,69]
def txR (r:RowID):List UInt8:=116::(zeN r.Table++46::zeN r.Seq)
def fnT (f:Int):List UInt8:=if f=0 then [67,79,85,78,84] else if f=1 then [83,85,77] else if f=2 then [77,73,78] else [77,65,88]
def opT (o:Int):List UInt8:=if o=5 then [61] else if o=6 then [60,62] else if o=7 then [60] else if o=8 then [60,61] else if o=9 then [62] else [62,61]
def zKO (ts:List (List UInt8)):List UInt8:=if ts=[] then [48] else zbr ts [32,43,32]
def zHv (c:Int) (fs:List (List UInt8)):List UInt8:=if fs=[] then zeN c else if c=1 then zbr fs [42] else zeN c++42::zbr fs [42]
def zA7 (x:List UInt8) (e:Int):List UInt8:=if e=1 then x else x++94::zeN e
def zcp (k:Int) (r:RowID) (xs:List (List UInt8)) (f:Int) (is:List (List UInt8)) (o:Int) (b:Value):List UInt8:=
 if k=0 then txR r
 else if k=1 then [109,111,110,117,115,91]++(xs.getD 0 []++([44,32]++(xs.getD 1 []++[93])))
 else if k=2 then [100,101,108,116,97,91]++(xs.getD 0 []++[93])
 else if k=3 then [97,98,115,101,110,116,91]++(xs.getD 0 []++[93])
 else [116,101,115,116,91]++(fnT f++([123]++(zbr is [59,32]++([125,32]++(opT o++([32]++(txV b++[93])))))))
mutual
def txA:At->List UInt8
 | ⟨k,r,a,f,i,o,b⟩=>zcp k r (z1V a) f (z0V i) o b
def zCL:yC->List (List UInt8)
 | []=>[]
 | ⟨x,e⟩::l=>zA7 (txA x) e::zCL l
def zLW:yB->List (List UInt8)
 | []=>[]
 | ⟨c,fs⟩::l=>zHv c (zCL fs)::zLW l
def z1V:yA->List (List UInt8)
 | []=>[]
 | a::l=>zKO (zLW a)::z1V l
def z0V:yD->List (List UInt8)
 | []=>[]
 | ⟨v,a⟩::l=>(txV v++([58,32]++zKO (zLW a)))::z0V l
end
def txF (f:Fc):List UInt8:=zA7 (txA f.At) f.Exp
def txT (t:Term):List UInt8:=zHv t.Cf (zCL t.Fs)
def txN (a:yB):List UInt8:=zKO (zLW a)
def txI (w:Wd):List UInt8:=txV w.Value++([58,32]++txN w.Ann)
theorem zmv:∀ l,zCL l=l.map txF
 | []=>by rw [zCL]; rfl
 | x::r=>by rw [zCL,zmv r]; rfl
theorem zHR:∀ l,zLW l=l.map txT
 | []=>by rw [zLW]; rfl
 | x::r=>by rw [zLW,zHR r]; rfl
theorem zh3:∀ l,z1V l=l.map txN
 | []=>by rw [z1V]; rfl
 | x::r=>by rw [z1V,zh3 r]; rfl
theorem zDn:∀ l,z0V l=l.map txI
 | []=>by rw [z0V]; rfl
 | x::r=>by rw [z0V,zDn r]; rfl
theorem z4q (x:At):txA x=zcp x.Kind x.Row (z1V x.Ag) x.Func (z0V x.Items) x.Op x.Bd:=by cases x; rw [txA]
def txL (l:yC):List UInt8:=zbr (zCL l) [42]
theorem zsF {v:Value} (h:zh6 v=true):(txV v).length<=512:=by
 have ht:=zqY h;unfold txV;have h1:=zhd v.Int;have h2:=zUN v.Text.data.toList;have h3:v.Text.data.toList.length=v.Text.size:=by rw [Array.length_toList]; rfl
 split
 ·omega
 ·split
  ·simp only [qf,qg,List.length_nil]; omega
  ·split <;>simp
theorem zbbz (r:RowID):(txR r).length<=44:=by
 have h1:=zhd r.Table;have h2:=zhd r.Seq;simp only [txR,qf,qg]; omega
theorem z1v (f:Int):(fnT f).length<=5:=by unfold fnT; (repeat' split) <;>simp
theorem z07 (f:Int):(opT f).length<=2:=by unfold opT; (repeat' split) <;>simp
theorem zOA {α:Type} (t:α->List UInt8) (m:α->Nat) (s:List UInt8):∀ l:List α,(∀ x∈l,(t x).length+s.length<=m x)->(zbr (l.map t) s).length<=(l.map m).sum
 | [],_=>by simp [zbr]
 | [x],h=>by
  have:=h x (by simp)
  simp only [List.map,zbr,List.sum_cons,List.sum_nil]; omega
 | x::y::r,h=>by
  have h1:=h x (by simp)
  have h2:=zOA t m s (y::r) λz hz=>h z (List.mem_cons_of_mem _ hz)
  simp only [List.map,zbr,qg,List.sum_cons] at h2 ⊢;omega
theorem zWQ:∀ l:yC,(l.map λf=>1000+1000*zeB f.At).sum=1000*(l.length+zbw l)
 | []=>by rw [zoj]; rfl
 | f::r=>by rw [List.map_cons,List.sum_cons,zWQ r,zdQ,qf]; omega
theorem z2J:∀ l:yB,(l.map λt=>1000+1000*(t.Fs.length+zbw t.Fs)).sum=1000*zP l
 | []=>by rw [zA2]; rfl
 | f::r=>by rw [List.map_cons,List.sum_cons,z2J r,zhh]; omega
theorem z2g:∀ l:yD,(l.map λt=>1000+1000*zP t.Ann).sum=1000*zcQ l
 | []=>by rw [zfQ]; rfl
 | f::r=>by rw [List.map_cons,List.sum_cons,z2g r,zhi]; omega
theorem zbbo {x:At} {e:Int} (h:(txA x).length<=700+1000*zeB x):(zA7 (txA x) e).length+1<=1000+1000*zeB x:=by
 have:=zhd e;unfold zA7;split
 ·omega
 ·simp only [qg,qf]; omega
theorem zXF {l:yC} (h:∀ f∈l,(txA f.At).length<=700+1000*zeB f.At):(txL l).length<=1000*(l.length+zbw l):=by
 unfold txL;rw [zmv, <- zWQ];exact zOA txF (λf=>1000+1000*zeB f.At) [42] l λf hf=>zbbo (h f hf)
theorem zzV:∀ (m:Nat),(∀ a,zbU m a=true->(txN a).length<=1+1000*zP a)/\(∀ x,zd0 (zbU m) x=true->(txA x).length<=700+1000*zeB x)
 | m=>by
  have hA:∀ (V:yB->Bool),(∀ a,V a=true->(txN a).length<=1+1000*zP a)->∀ x,zd0 V x=true->(txA x).length<=700+1000*zeB x:=by
   intro V hV x hx;rw [zgy];cases zdJ.1 hx with
   | var r h=>
    rw [txA]; have:=zbbz r;simp only [zcp,if_true]; omega
   | mon a b ha hb _ _ _=>
    have h1:=hV a ha; have h2:=hV b hb;rw [txA,zh3];simp only [zcp,zeh,zhg,zfQ,List.map,List.getD_cons_zero,List.getD_cons_succ,qg,qf,List.length_nil];simp only [show ¬ (1:Int)=0 by decide,if_false,if_true,qg,qf,List.length_nil]
    omega
   | del a ha _ _ _=>
    have h1:=hV a ha;rw [txA,zh3];simp only [zcp,zeh,zhg,zfQ,List.map,List.getD_cons_zero];simp only [show ¬ (2:Int)=0 by decide,show ¬ (2:Int)=1 by decide,if_false,if_true,qg,qf,List.length_nil]
    omega
   | abs a ha _ _=>
    have h1:=hV a ha;rw [txA,zh3];simp only [zcp,zeh,zhg,zfQ,List.map,List.getD_cons_zero];simp only [show ¬ (3:Int)=0 by decide,show ¬ (3:Int)=1 by decide,show ¬ (3:Int)=2 by decide,if_false,if_true,qg,qf,List.length_nil]
    omega
   | tst f l o b hl hi hs hf=>
    obtain ⟨_,hb,hit⟩:=zqA hf;have h1:=z1v f; have h2:=z07 o; have h3:=zsF hb
    have h4:(zbr (l.map txI) [59,32]).length<=1000*zcQ l:=by
     rw [<- z2g];refine zOA txI (λw=>1000+1000*zP w.Ann) [59,32] l λw hw=> ?_
     have h5:=hV _ (hi w hw).1; have h6:=zsF (hit w hw).1;simp only [txI,qg,qf,List.length_nil]; omega
    rw [txA,zDn];simp only [zcp,zhg];simp only [show ¬ (4:Int)=0 by decide,show ¬ (4:Int)=1 by decide,show ¬ (4:Int)=2 by decide,show ¬ (4:Int)=3 by decide,if_false,qg,qf,List.length_nil]
    omega
  have hN:∀ a,zbU m a=true->(txN a).length<=1+1000*zP a:=by
   induction m with
   | zero=>intro a h; cases h
   | succ m ih=>
    intro a h;unfold txN zKO;split
    ·simp
    ·rw [zHR, <- z2J];refine Nat.le_trans (zOA txT (λt=>1000+1000*(t.Fs.length+zbw t.Fs)) [32,43,32] a λt ht=> ?_) (Nat.le_add_left _ _)
     have hok:=(zlr h ht).2;have h5:=zXF (l:=t.Fs) λf hf=>hA _ ih _ (ziB hok hf).2
     have h6:=zhd t.Cf;have e:(zbr (zCL t.Fs) [42]).length=(txL t.Fs).length:=rfl;unfold txT zHv;simp only [qf,List.length_nil];split
     ·omega
     ·split
      ·omega
      ·simp only [qg,qf]; omega
  exact ⟨hN,hA _ hN⟩
theorem zgJ {n:Int} (h:wf3 n): -9223372036854775808<=n/\n<=9223372036854775807:=by
 have h:(Lit.int .i64 n).wf=true:=h;have:IntKind.i64.min<=n/\n<=IntKind.i64.max:=by simpa [Lit.wf] using h
 exact ⟨this.1,this.2⟩
def rng (n:Int):Prop:= -9223372036854775808<=n/\n<=9223372036854775807
instance (n:Int):Decidable (rng n):=by unfold rng; infer_instance
theorem zXk {n:Int} (h:rng n):strconv_Itoa n=(true,bs (zeN n)):=by
 unfold strconv_Itoa zO9 zKt;rw [decide_eq_true h.1,decide_eq_true h.2]; rfl
theorem z6o {n:Int} (h:rng n):zhZ n 10=(true,bs (zeN n)):=by
 unfold zhZ ztI zKt;rw [decide_eq_true h.1,decide_eq_true h.2]; rfl
theorem okS (n m:Nat) (h:n+m<=9223372036854775807):decide (n+m<=9223372036854775807)=true:=decide_eq_true h
theorem z9r {r:RowID} (h:zDs r=true) (h1:rng r.Table) (h2:rng r.Seq):zuH r=(true,bs (txR r)):=by
 unfold zuH zKM txR;have l1:=zhd r.Table;have l2:=zhd r.Seq;rw [show ByteArray.mk #[(116:UInt8)]=bs [116] from rfl,show ByteArray.mk #[(46:UInt8)]=bs [46] from rfl]
 simp only [Wy.fin_bn,Wy.fin_i,Wy.fin_k,zKa,h,zXk h1,zXk h2,cond_true,cond_false,Bool.not_true,zc9,zbJ,qg,qf,List.length_nil];rw [okS _ _ (by omega),okS _ _ (by omega),okS _ _ (by omega)]
 simp
theorem zYb {v:Value} (h:zh6 v=true) (hr:rng v.Int):zpc v=(true,bs (txV v)):=by
 unfold zpc zNt txV strings_ReplaceAll;have ht:=zqY h;rw [show ByteArray.mk #[(39:UInt8)]=bs [39] from rfl,show ByteArray.mk #[(39:UInt8),(39:UInt8)]=bs [39,39] from rfl]
 simp only [Wy.fin_bn,Wy.fin_i,Wy.fin_k,zxn,h,z6o hr,z04 _ ht,cond_true,cond_false,Bool.not_true,zc9,zbJ,qg,qf,List.length_nil];have h2:=zUN v.Text.data.toList;have h3:v.Text.data.toList.length=v.Text.size:=by rw [Array.length_toList]; rfl
 rw [okS _ _ (by omega),okS _ _ (by omega)]
 by_cases k0:v.Kind=0
 ·simp [k0]
 by_cases k1:v.Kind=1
 ·simp [k1]
 simp only [ziP,k0,k1,decide_false,cond_false,if_false];by_cases i1:v.Int=1
 ·simp only [i1,decide_true,cond_true,if_true]; rfl
 ·simp only [i1,decide_false,cond_false,if_false]; rfl
theorem zbbv {f:Int} (h0:0<=f) (h3:f<=3):(decide ((0:Int)<=f)&&decide (f<Int.ofNat zb1.snd.length))=true/\zb1.snd.getD f.toNat default=bs (fnT f):=by
 have hc:f=0\/f=1\/f=2\/f=3:=by omega
 rcases hc with rfl | rfl | rfl | rfl <;>exact ⟨rfl,rfl⟩
theorem zbb1 {o:Int} (h0:5<=o) (h3:o<=10):(decide ((0:Int)<=IntKind.i64.wrap (o - 5))&&decide (IntKind.i64.wrap (o - 5)<Int.ofNat zdb.snd.length))=true/\zdb.snd.getD (IntKind.i64.wrap (o - 5)).toNat default=bs (opT o):=by
 have hc:o=5\/o=6\/o=7\/o=8\/o=9\/o=10:=by omega
 rcases hc with rfl | rfl | rfl | rfl | rfl | rfl <;>exact ⟨rfl,rfl⟩
theorem zWD {m:Nat} {x:At} (h:zd0 (zbU m) x=true) (hi:x.Items.length<=1024):zeB x<=4195328:=by
 rw [zgy];cases zdJ.1 h with
 | var r h=>rw [zhg,zfQ]; omega
 | mon a b ha hb _ _ _=>
  have h1:=(zen ha).2.1; have h2:=(zen hb).2.1;simp only [zeh,zhg,zfQ]; omega
 | del a ha _ _ _=>
  have h1:=(zen ha).2.1;simp only [zeh,zhg,zfQ]; omega
 | abs a ha _ _=>
  have h1:=(zen ha).2.1;simp only [zeh,zhg,zfQ]; omega
 | tst f l o b hl hv hs hf=>
  have h1:∀ l:yD,(∀ w∈l,zP w.Ann<=4096)->zcQ l<=l.length*4097:=λl=>by
   induction l with
   | nil=>intro _; rw [zfQ]; omega
   | cons w r ih=>
    intro h;have:=h w (by simp)
    have:=ih λw hw=>h w (by simp [hw])
    rw [zhi,qf,Nat.add_mul]; omega
  have:=h1 l λw hw=>(zen (hv w hw).1).2.1
  have:=Nat.mul_le_mul hi (Nat.le_refl 4097);simp only [zhg] at this ⊢; omega
section
variable (gA:At->Bool×ByteArray) (gF:yC->Bool×ByteArray) (gT:yB->Bool×ByteArray)
theorem zbb9 (l:yC) (hl:l.length<=1000) (hg:∀ f∈l,gA f.At=(true,bs (txA f.At))/\(txA f.At).length<=4200000000/\rng f.Exp):zfS gA l=(true,bs (txL l)):=by
 have hreach:zbh=70368744177664:=rfl;unfold zfS zsg
 have:=zcE (W:=zki gA) (z:=default) l.length (λi=>((),l,(l.length:Int),(i:Int),())) (λi=>((l.take i).map λf=>bs (txF f),())) (λ_=>true) default (l.map λf=>bs (txF f))
  (λi hi H K D=>by
   show (zeD gA l l.length i ((l.take i).map λf=>bs (txF f))).ev H K D=_
   unfold zeD;obtain ⟨h1,h2,h3⟩:=hg _ (zL hi);have l1:=zhd (l.getD i default).Exp;rw [show ByteArray.mk #[(94:UInt8)]=bs [94] from rfl]
   simp only [At.eta,Wy.ev_i,Wy.ev_k,Wy.ev_h,Wy.ev_bn,Wy.ev_d,tT,hi,h1,zXk h3,zc9,zbJ,qg,qf,List.length_nil];rw [okS _ _ (by omega),okS _ _ (by omega),zX (by omega),zd7 hi,List.map_append]
   have hb:decide ((((l.take i).map λf=>bs (txF f)).length+1)*16<=zbh)=true:=by simp only [qe,List.length_map,List.length_take]; omega
   generalize ((l.take i).map λf=>bs (txF f))=out at hb ⊢
   have hb':decide ((out.length+(0+1))*16<=zbh)=true:=hb;simp only [hb,hb',cond_true,List.map_cons,List.map_nil,txF,zA7,zrA];by_cases he:(l.getD i default).Exp=1
   ·simp only [he,decide_true,Bool.not_true,cond_false,if_true]
   ·simp only [he,decide_false,Bool.not_false,cond_true,if_false,List.singleton_append])
  (λH K D=>by
   show (zeD gA l l.length l.length ((l.take l.length).map λf=>bs (txF f))).ev H K D=_
   unfold zeD;simp only [Wy.ev_i,Wy.ev_k,tT,Nat.lt_irrefl,List.take_length]) (l.length+(Int.ofNat l.length).toNat +Int.toNat (0:Int)+(0:Nat)+(1:Nat)) (by omega)
 rw [show zdR (λ_=>true) l.length 0=true from zdt.2 λ_ _ _=>rfl] at this
 have e:zrG gA (l.length+(Int.ofNat l.length).toNat +Int.toNat (0:Int)+(0:Nat)+(1:Nat)) l (Int.ofNat l.length) (0:Int) []=(true,(l.map txF).map bs):=by rw [List.map_map]; exact this
 have hlen:(zbr (l.map txF) [42]).length<=140737488355328:=by
  refine Nat.le_trans (zs5 (B:=4200001000) (l.map txF) [42] λx hx=> ?_) (by
   rw [List.length_map]; have:=Nat.mul_le_mul hl (Nat.le_refl 4200001000); omega)
  obtain ⟨f,hf,rfl⟩:=List.mem_map.1 hx;have:=(hg f hf).2.1;have:=zhd f.Exp;unfold txF zA7;split
  ·simp only [qf,List.length_nil]; omega
  ·simp only [qg,qf,List.length_nil]; omega
 rw [Wy.fin_bn,e,show ByteArray.mk #[(42:UInt8)]=bs [42] from rfl]
 unfold strings_Join;simp only [cond_true,Wy.fin_bn,Wy.fin_k,zHX _ _ (by rw [List.length_map]; omega) hlen]
 unfold txL;rw [zmv]
theorem zbcC (a:yB) (hl:a.length<=1000) (hlen:(txN a).length<=140737488355328) (hg:∀ t∈a,gF t.Fs=(true,bs (txL t.Fs))/\(txL t.Fs).length<=4200000000/\rng t.Cf):zmU gF a=(true,bs (txN a)):=by
 have hreach:zbh=70368744177664:=rfl;unfold zmU zCl;by_cases h0:a=[]
 ·subst h0;have e:txN []=[48]:=by unfold txN; rw [zLW]; rfl
  rw [e]; rfl
 have hne:(Int.ofNat a.length==(0:Int))=false:=by
  rw [beq_eq_false_iff_ne]; intro e;have:(a.length:Int)=0:=e;exact h0 (List.length_eq_zero_iff.1 (by omega))
 have:=zcE (W:=ztD gF) (z:=default) a.length (λi=>((),a,(a.length:Int),(i:Int),())) (λi=>((a.take i).map λf=>bs (txT f),())) (λ_=>true) default (a.map λf=>bs (txT f))
  (λi hi H K D=>by
   show (zjE gF a a.length i ((a.take i).map λf=>bs (txT f))).ev H K D=_
   unfold zjE;obtain ⟨h1,h2,h3⟩:=hg _ (zL hi);have l1:=zhd (a.getD i default).Cf;rw [show ByteArray.mk #[(42:UInt8)]=bs [42] from rfl]
   have hL:decide ((i:Int)<(a.length:Int))=true:=by simp [hi]
   have hL':decide ((i:Int)<Int.ofNat a.length)=true:=hL;simp only [Wy.ev_i,Wy.ev_k,Wy.ev_h,Wy.ev_bn,Wy.ev_d,hL,hL',zuW,Bool.and_self,cond_true,Int.toNat_natCast,h1,z6o h3,zc9,zbJ,qg,qf,List.length_nil,show (Int.ofNat (a.getD i default).Fs.length==(0:Int))=((a.getD i default).Fs.length==0) from zvS _ 0]
   rw [okS _ _ (by omega),okS _ _ (by omega),zX (by omega),zd7 hi,List.map_append]
   have hb:decide ((((a.take i).map λf=>bs (txT f)).length+1)*16<=zbh)=true:=by simp only [qe,List.length_map,List.length_take]; omega
   generalize ((a.take i).map λf=>bs (txT f))=out at hb ⊢
   have hb':decide ((out.length+(0+1))*16<=zbh)=true:=hb;simp only [hb,hb',cond_true,List.map_cons,List.map_nil,txT,zHv,ziP]
   have e0:(zCL (a.getD i default).Fs=[])↔(a.getD i default).Fs.length=0:=by
    rw [zmv,List.map_eq_nil_iff,List.length_eq_zero_iff]
   by_cases hf:(a.getD i default).Fs.length=0
   ·rw [if_pos (e0.2 hf),hf]; rfl
   ·rw [if_neg (λe=>hf (e0.1 e)),zXT,decide_eq_false hf]
    by_cases he:(a.getD i default).Cf=1
    ·simp only [he,decide_true,cond_true,cond_false,if_true,txL]
    ·simp only [he,decide_false,cond_false,if_false,txL,List.append_assoc,List.singleton_append])
  (λH K D=>by
   show (zjE gF a a.length a.length ((a.take a.length).map λf=>bs (txT f))).ev H K D=_
   unfold zjE;simp only [Wy.ev_i,Wy.ev_k,tT,Nat.lt_irrefl,List.take_length]) (a.length+(Int.ofNat a.length).toNat +Int.toNat (0:Int)+(0:Nat)+(1:Nat)) (by omega)
 rw [show zdR (λ_=>true) a.length 0=true from zdt.2 λ_ _ _=>rfl] at this
 have e:zBN gF (a.length+(Int.ofNat a.length).toNat +Int.toNat (0:Int)+(0:Nat)+(1:Nat)) a (Int.ofNat a.length) (0:Int) []=(true,(a.map txT).map bs):=by rw [List.map_map]; exact this
 have ex:txN a=zbr (a.map txT) [32,43,32]:=by
  unfold txN zKO;rw [zHR,if_neg (by simpa using h0)]
 rw [ex] at hlen ⊢;rw [Wy.fin_i,hne,cond_false,Wy.fin_bn,e,show ByteArray.mk #[(32:UInt8),(43:UInt8),(32:UInt8)]=bs [32,43,32] from rfl]
 unfold strings_Join;simp only [cond_true,Wy.fin_bn,Wy.fin_k,zHX _ _ (by rw [List.length_map]; omega) hlen]
theorem zbcs {V:yB->Bool} (x:At) (hx:zd0 V x=true) (hw:zfP x) (hi:x.Items.length<=1024) (hg:∀ a,(a∈x.Ag\/∃ w∈x.Items,a=w.Ann)->gT a=(true,bs (txN a))/\(txN a).length<=4200000000):zhW gT x=(true,bs (txA x)):=by
 have hreach:zbh=70368744177664:=rfl;have W:=zqv hw;unfold zhW zvU;rw [z4q];cases zdJ.1 hx with
 | var r h=>
  have hr:=W.2.2.2.2.1;simp only [Wy.fin_bn,Wy.fin_i,Wy.fin_k,z9r h (zgJ hr.1) (zgJ hr.2)];simp [zcp]
 | mon a b ha hb _ _ _=>
  obtain ⟨g1,l1⟩:=hg a (.inl (by simp))
  obtain ⟨g2,l2⟩:=hg b (.inl (by simp))
  rw [zh3];simp only [List.map,zcp,List.getD_cons_zero,List.getD_cons_succ,show ¬ (1:Int)=0 by decide,if_false,if_true]
  rw [show ByteArray.mk #[(109:UInt8),(111:UInt8),(110:UInt8),(117:UInt8),(115:UInt8),(91:UInt8)]=bs [109,111,110,117,115,91] from rfl,show ByteArray.mk #[(44:UInt8),(32:UInt8)]=bs [44,32] from rfl,show ByteArray.mk #[(93:UInt8)]=bs [93] from rfl]
  simp only [cond_true,cond_false,Wy.fin_i,Wy.fin_bn,Wy.fin_k,show ((1:Int)==0)=false from rfl,show ((1:Int)==1)=true from rfl,show (decide ((0:Int)<=0)&&decide ((0:Int)<Int.ofNat [a,b].length))=true from rfl,show (decide ((0:Int)<=1)&&decide ((1:Int)<Int.ofNat [a,b].length))=true from rfl,show [a,b].getD (Int.toNat 0) default=a from rfl,show [a,b].getD (Int.toNat 1) default=b from rfl,g1,g2,zc9,zbJ,List.length_append,List.length_cons,List.length_nil]
  rw [okS _ _ (by omega),okS _ _ (by omega),okS _ _ (by omega),okS _ _ (by omega)]
  simp
 | del a ha _ _ _=>
  obtain ⟨g1,l1⟩:=hg a (.inl (by simp))
  rw [zh3];simp only [List.map,zcp,List.getD_cons_zero,show ¬ (2:Int)=0 by decide,show ¬ (2:Int)=1 by decide,if_false,if_true]
  rw [show ByteArray.mk #[(100:UInt8),(101:UInt8),(108:UInt8),(116:UInt8),(97:UInt8),(91:UInt8)]=bs [100,101,108,116,97,91] from rfl,show ByteArray.mk #[(93:UInt8)]=bs [93] from rfl]
  simp only [cond_true,cond_false,Wy.fin_i,Wy.fin_bn,Wy.fin_k,show ((2:Int)==0)=false from rfl,show ((2:Int)==1)=false from rfl,show ((2:Int)==2)=true from rfl,show (decide ((0:Int)<=0)&&decide ((0:Int)<Int.ofNat [a].length))=true from rfl,show [a].getD (Int.toNat 0) default=a from rfl,g1,zc9,zbJ,List.length_append,List.length_cons,List.length_nil]
  rw [okS _ _ (by omega),okS _ _ (by omega)]
  simp
 | abs a ha _ _=>
  obtain ⟨g1,l1⟩:=hg a (.inl (by simp))
  rw [zh3];simp only [List.map,zcp,List.getD_cons_zero,show ¬ (3:Int)=0 by decide,show ¬ (3:Int)=1 by decide,show ¬ (3:Int)=2 by decide,if_false,if_true]
  rw [show ByteArray.mk #[(97:UInt8),(98:UInt8),(115:UInt8),(101:UInt8),(110:UInt8),(116:UInt8),(91:UInt8)]=bs [97,98,115,101,110,116,91] from rfl,show ByteArray.mk #[(93:UInt8)]=bs [93] from rfl]
  simp only [cond_true,cond_false,Wy.fin_i,Wy.fin_bn,Wy.fin_k,show ((3:Int)==0)=false from rfl,show ((3:Int)==1)=false from rfl,show ((3:Int)==2)=false from rfl,show ((3:Int)==3)=true from rfl,show (decide ((0:Int)<=0)&&decide ((0:Int)<Int.ofNat [a].length))=true from rfl,show [a].getD (Int.toNat 0) default=a from rfl,g1,zc9,zbJ,List.length_append,List.length_cons,List.length_nil]
  rw [okS _ _ (by omega),okS _ _ (by omega)]
  simp
 | tst f l o b hl hv hs hf=>
  obtain ⟨⟨f0,f3,o5,o10⟩,hb,hit⟩:=zqA hf;have hwl:=zjo W.2.1.1;have hwb:rng b.Int:=zgJ W.2.2.1.2.1
  have:=zcE (W:=zlJ gT) (z:=default) l.length (λi=>((),(),l,(l.length:Int),(i:Int),())) (λi=>((⟨4,⟨0,0⟩,[],f,l,o,b⟩:At),(l.take i).map λw=>bs (txI w),())) (λ_=>true) default ((⟨4,⟨0,0⟩,[],f,l,o,b⟩:At),l.map λw=>bs (txI w))
   (λi hi' H K D=>by
    show (zfm gT l l.length i (⟨4,⟨0,0⟩,[],f,l,o,b⟩:At) ((l.take i).map λw=>bs (txI w))).ev H K D=_
    unfold zfm;have hm:=zL hi';obtain ⟨g1,l1⟩:=hg _ (.inr ⟨_,hm,rfl⟩);have l2:=zsF (hit _ hm).1;rw [show ByteArray.mk #[(58:UInt8),(32:UInt8)]=bs [58,32] from rfl]
    simp only [Wy.ev_i,Wy.ev_k,Wy.ev_h,Wy.ev_bn,Wy.ev_d,tT,hi',zYb (hit _ hm).1 (zgJ (hwl _ hm).1.2.1),g1,zc9,zbJ,qg,qf,List.length_nil];rw [okS _ _ (by omega),okS _ _ (by omega),zX (by simp only at hi; omega),zd7 hi',List.map_append]
    have hb:decide ((((l.take i).map λw=>bs (txI w)).length+1)*16<=zbh)=true:=by simp only at hi; simp only [qe,List.length_map,List.length_take]; omega
    generalize ((l.take i).map λw=>bs (txI w))=out at hb ⊢
    have hb':decide ((out.length+(0+1))*16<=zbh)=true:=hb;simp only [hb,hb',cond_true,List.map_cons,List.map_nil,txI,List.append_assoc])
   (λH K D=>by
    show (zfm gT l l.length l.length (⟨4,⟨0,0⟩,[],f,l,o,b⟩:At) ((l.take l.length).map λw=>bs (txI w))).ev H K D=_
    unfold zfm;simp only [Wy.ev_i,Wy.ev_k,tT,Nat.lt_irrefl,List.take_length]) (l.length+(Int.ofNat l.length).toNat +Int.toNat (0:Int)+([]:yA).length+l.length+(0:Nat)+(1:Nat)) (by omega)
  rw [show zdR (λ_=>true) l.length 0=true from zdt.2 λ_ _ _=>rfl] at this
  have e:ztb gT (l.length+(Int.ofNat l.length).toNat +Int.toNat (0:Int)+([]:yA).length+l.length+(0:Nat)+(1:Nat)) l (Int.ofNat l.length) (0:Int) (⟨4,⟨0,0⟩,[],f,l,o,b⟩:At) []=(true,((⟨4,⟨0,0⟩,[],f,l,o,b⟩:At),(l.map txI).map bs)):=by rw [List.map_map]; exact this
  simp only at hi
  have hlen:(zbr (l.map txI) [59,32]).length<=5000000000000:=by
   refine Nat.le_trans (zs5 (B:=4200001000) (l.map txI) [59,32] λy hy=> ?_) (by
    rw [List.length_map]; have:=Nat.mul_le_mul hi (Nat.le_refl 4200001000); omega)
   obtain ⟨w,hw,rfl⟩:=List.mem_map.1 hy;have h1:=(hg _ (.inr ⟨w,hw,rfl⟩)).2;have h2:=zsF (hit w hw).1;simp only [txI,qg,qf,List.length_nil]; omega
  have l3:=z1v f;have l4:=z07 o;have l5:=zsF hb;rw [zDn];simp only [zcp,show ¬ (4:Int)=0 by decide,show ¬ (4:Int)=1 by decide,show ¬ (4:Int)=2 by decide,show ¬ (4:Int)=3 by decide,if_false]
  rw [show ByteArray.mk #[(116:UInt8),(101:UInt8),(115:UInt8),(116:UInt8),(91:UInt8)]=bs [116,101,115,116,91] from rfl,show ByteArray.mk #[(123:UInt8)]=bs [123] from rfl,show ByteArray.mk #[(125:UInt8),(32:UInt8)]=bs [125,32] from rfl,show ByteArray.mk #[(59:UInt8),(32:UInt8)]=bs [59,32] from rfl,show ByteArray.mk #[(32:UInt8)]=bs [32] from rfl,show ByteArray.mk #[(93:UInt8)]=bs [93] from rfl]
  simp only [Wy.fin_i,show ((4:Int)==0)=false from rfl,show ((4:Int)==1)=false from rfl,show ((4:Int)==2)=false from rfl,show ((4:Int)==3)=false from rfl,cond_false]
  unfold strings_Join;obtain ⟨fb,ft⟩:=zbbv f0 f3;obtain ⟨ob,ot⟩:=zbb1 o5 o10;rw [e,z6m];simp only [Wy.fin_i,Wy.fin_k,Wy.fin_bn,fb,ft,ob,ot,zHX _ _ (show (l.map txI).length<=140737488355328 by rw [List.length_map]; omega) (show (zbr (l.map txI) [59,32]).length<=140737488355328 by omega),zYb hb hwb,cond_true,zc9,zbJ,List.length_append,List.length_cons,List.length_nil]
  rw [okS _ _ (by omega),okS _ _ (by omega),okS _ _ (by omega),okS _ _ (by omega),okS _ _ (by omega),okS _ _ (by omega),okS _ _ (by omega),okS _ _ (by omega)]
  simp
end
theorem z4K:∀ n,
  (∀ m a,zbU m a=true->zfd a->3*m<=n->zm4 n a=(true,bs (txN a)))/\
  (∀ m x,zd0 (zbU m) x=true->zfP x->x.Items.length<=1024->3*m+1<=n->zkt n x=(true,bs (txA x)))/\
  (∀ m (l:yC),l.length<=1000->(∀ f∈l,zd0 (zbU m) f.At=true/\zfP f.At/\f.At.Items.length<=1024/\rng f.Exp)->3*m+2<=n->zfO n l=(true,bs (txL l)))
 | 0=>by
  refine ⟨?_, ?_, ?_⟩
  ·intro m a h _ hm; have:m=0:=by omega
   subst this; cases h
  all_goals (intros; omega)
 | n+1=>by
  obtain ⟨h1,h2,h3⟩:=z4K n;refine ⟨?_, ?_, ?_⟩
  ·intro m a h hw hm;cases m with
   | zero=>cases h
   | succ m=>
    have hl:=ztt (zAa h);have hlen:=(zzV (m+1)).1 a h;rw [zOq];refine zbcC _ a (by omega) (by omega) λt ht=> ?_
    obtain ⟨⟨c1,c2⟩,hok⟩:=zlr h ht;obtain ⟨q1,q2⟩:=hl.2.2.2 t ht;have hwt:=zmL (ztX (zqw hw t ht)).2.1;refine ⟨h3 m t.Fs (by omega) (λf hf=> ?_) (by omega), ?_,by constructor <;>omega⟩
    ·obtain ⟨⟨e1,_⟩,hv⟩:=ziB hok hf;exact ⟨hv,(zpe (hwt f hf)).1,(q2 f hf).2,by have:=(q2 f hf).1; constructor <;>omega⟩
    ·refine Nat.le_trans (zXF λf hf=>(zzV m).2 _ (ziB hok hf).2) ?_
     have hs:t.Fs.length+zbw t.Fs<=zP a:=by
      clear hok q1 q2 hwt hw h hlen hl;induction a with
      | nil=>cases ht
      | cons b r ih=>
       rw [zhh];rcases qd.1 ht with rfl | ht
       ·omega
       ·have:=ih ht; omega
     omega
  ·intro m x h hw hi hm;rw [zFB];have W:=zqv hw;refine zbcs _ x h hw hi λa ha=> ?_
   have hv:zbU m a=true/\zfd a:=by
    rcases ha with ha | ⟨w,hw',rfl⟩
    ·refine ⟨?_,(zjM W.1.1 a ha).1⟩;cases zdJ.1 h with
     | var r h=>cases ha
     | mon b c hb hc _ _ _=>
      simp only [qd,List.not_mem_nil,or_false] at ha;rcases ha with rfl | rfl
      ·exact hb
      ·exact hc
     | del b hb _ _ _=>rw [qh] at ha; subst ha; exact hb
     | abs b hb _ _=>rw [qh] at ha; subst ha; exact hb
     | tst f l o b hl hi hs hf=>cases ha
    ·refine ⟨?_,(zjo W.2.1.1 w hw').2.1⟩;cases zdJ.1 h with
     | tst f l o b hl hi2 hs hf=>exact (hi2 w hw').1
     | _=>cases hw'
   refine ⟨h1 m a hv.1 hv.2 (by omega), ?_⟩
   have q1:=(zzV m).1 a hv.1;have q2:=(zen hv.1).2.1;omega
  ·intro m l hl h hm;rw [zBY];refine zbb9 _ l hl λf hf=> ?_
   obtain ⟨q1,q2,q3,q4⟩:=h f hf;refine ⟨h2 m f.At q1 q2 q3 (by omega), ?_,q4⟩
   have q5:=(zzV m).2 f.At q1;have q6:=zWD q1 q3;omega
def hd (S:List UInt8) (u:List UInt8):Prop:=∀ c,u.head? =some c->c∈S
theorem zoD {S:List UInt8} {c:UInt8} {u:List UInt8} (h:c∈S):hd S (c::u):=λd hd=>by
 simp only [List.head?_cons,qa] at hd; subst hd; exact h
theorem hd.mono {S T:List UInt8} {u:List UInt8} (h:hd S u) (hs:∀ c∈S,c∈T):hd T u:=λc hc=>hs c (h c hc)
theorem hd.noDig {S:List UInt8} {u:List UInt8} (h:hd S u) (hs:∀ c∈S,zqg c=false):noDig u:=λc hc=>hs c (h c hc)
theorem hd.ne {S:List UInt8} {u:List UInt8} (h:hd S u) {c:UInt8} (hs:c∉S):u.head? ≠some c:=λe=>hs (h c e)
theorem hd.cons_ne {S:List UInt8} {u:List UInt8} {c:UInt8} (h:hd S (c::u)) (hs:c∉S):False:=hs (h c rfl)
theorem zKB {α:Type} (tx:α->List UInt8) (S0:List UInt8) (s0:UInt8) (sr:List UInt8) (P:α->Prop) (hS:s0∉S0) (hR:∀ x y,P x->P y->∀ u v,hd (s0::S0) u->hd (s0::S0) v->tx x++u=tx y++v->x=y/\u=v):
  ∀ l l':List α,l≠[]->l'≠[]->(∀ x∈l,P x)->(∀ x∈l',P x)->∀ u v,hd S0 u->hd S0 v->zbr (l.map tx) (s0::sr)++u=zbr (l'.map tx) (s0::sr)++v->l=l'/\u=v
 | [],_,h,_,_,_,_,_,_,_,_=>absurd rfl h
 | _::_,[],_,h,_,_,_,_,_,_,_=>absurd rfl h
 | [x],[y],_,_,hx,hy,u,v,hu,hv,h=>by
  have mono:∀ c∈S0,c∈s0::S0:=λc hc=>List.mem_cons_of_mem _ hc
  obtain ⟨h1,h2⟩:=hR x y (hx x (by simp)) (hy y (by simp)) u v (hu.mono mono) (hv.mono mono) h
  exact ⟨by rw [h1],h2⟩
 | [x],y::y'::r',_,_,hx,hy,u,v,hu,hv,h=>by
  have mono:∀ c∈S0,c∈s0::S0:=λc hc=>List.mem_cons_of_mem _ hc
  simp only [List.map,zbr,List.append_assoc] at h;obtain ⟨h1,h2⟩:=hR x y (hx x (by simp)) (hy y (by simp)) u _ (hu.mono mono) (zoD (by simp)) h
  rw [h2] at hu;exact (hu.cons_ne hS).elim
 | x::x'::r,[y],_,_,hx,hy,u,v,hu,hv,h=>by
  have mono:∀ c∈S0,c∈s0::S0:=λc hc=>List.mem_cons_of_mem _ hc
  simp only [List.map,zbr,List.append_assoc] at h;obtain ⟨h1,h2⟩:=hR x y (hx x (by simp)) (hy y (by simp)) _ v (zoD (by simp)) (hv.mono mono) h
  rw [<- h2] at hv;exact (hv.cons_ne hS).elim
 | x::x'::r,y::y'::r',_,_,hx,hy,u,v,hu,hv,h=>by
  have h:zbr (((x::x'::r)).map tx) (s0::sr)++u=zbr (((y::y'::r')).map tx) (s0::sr)++v:=h;simp only [List.map,zbr,List.append_assoc] at h;obtain ⟨h1,h2⟩:=hR x y (hx x (by simp)) (hy y (by simp)) _ _ (zoD (by simp)) (zoD (by simp)) h
  have h3:=(List.append_right_inj sr).1 (List.cons.inj h2).2;obtain ⟨h4,h5⟩:=zKB tx S0 s0 sr P hS hR (x'::r) (y'::r') (by simp) (by simp) (λz hz=>hx z (List.mem_cons_of_mem _ hz)) (λz hz=>hy z (List.mem_cons_of_mem _ hz)) u v hu hv h3
  exact ⟨by rw [h1,h4],h5⟩
theorem z3N {t:ByteArray} (h:t.size=0):t=ByteArray.mk #[]:=zwS (by
 have:t.data.toList.length=0:=by rw [Array.length_toList]; exact h
 rw [List.length_eq_zero_iff.1 this])
theorem z5w {x y:Value} (hx:zh6 x=true) (hy:zh6 y=true) (rx:rng x.Int) (ry:rng y.Int) {u v:List UInt8} (hu:hd [58,93] u) (hv:hd [58,93] v) (h:txV x++u=txV y++v):x=y/\u=v:=by
 have d1:∀ c∈([58,93]:List UInt8),zqg c=false:=by decide
 obtain ⟨cx,sx,ex,dx⟩:=z2x rx.1 rx.2;obtain ⟨cy,sy,ey,dy⟩:=z2x ry.1 ry.2
 have nd:∀ c:UInt8,c=45\/zqg c=true->c≠39/\c≠84/\c≠70:=λc hc=>by
  refine ⟨?_, ?_, ?_⟩ <;>(intro e; subst e; revert hc; decide)
 obtain ⟨kx,ix,tx⟩:=x;obtain ⟨ky,iy,ty⟩:=y;simp only [zh6,Bool.or_eq_true,qc,beq_iff_eq,qe] at hx hy;simp only at rx ry ex ey;rcases hx with (⟨rfl,hx⟩ | ⟨⟨rfl,rfl⟩,hx⟩) | ⟨⟨rfl,hx⟩,hx2⟩
 ·have:=z3N hx; subst this;rcases hy with (⟨rfl,hy⟩ | ⟨⟨rfl,rfl⟩,hy⟩) | ⟨⟨rfl,hy⟩,hy2⟩
  ·have:=z3N hy; subst this;simp only [txV,if_true] at h;obtain ⟨h1,h2⟩:=ztc rx ry (hu.noDig d1) (hv.noDig d1) h;exact ⟨by rw [h1],h2⟩
  ·simp only [txV,if_true,show ¬ (1:Int)=0 by decide,if_false,ex,List.cons_append,qj] at h
   exact absurd h.1 (nd cx dx).1
  ·rcases hy2 with rfl | rfl
   ·simp only [txV,if_true,show ¬ (2:Int)=0 by decide,show ¬ (2:Int)=1 by decide,show ¬ (0:Int)=1 by decide,if_false,ex,List.cons_append,qj] at h
    exact absurd h.1 (nd cx dx).2.2
   ·simp only [txV,if_true,show ¬ (2:Int)=0 by decide,show ¬ (2:Int)=1 by decide,if_false,ex,List.cons_append,qj] at h
    exact absurd h.1 (nd cx dx).2.1
 ·rcases hy with (⟨rfl,hy⟩ | ⟨⟨rfl,rfl⟩,hy⟩) | ⟨⟨rfl,hy⟩,hy2⟩
  ·simp only [txV,if_true,show ¬ (1:Int)=0 by decide,if_false,ey,List.cons_append,qj] at h
   exact absurd h.1.symm (nd cy dy).1
  ·simp only [txV,if_true,show ¬ (1:Int)=0 by decide,if_false,List.cons_append,qj,true_and,List.append_assoc,List.nil_append] at h
   obtain ⟨h1,h2⟩:=zYn _ _ u v (hu.ne (by decide)) (hv.ne (by decide)) h
   exact ⟨by rw [zwS h1],h2⟩
  ·rcases hy2 with rfl | rfl <;>simp [txV] at h
 ·have:=z3N hx; subst this;rcases hy with (⟨rfl,hy⟩ | ⟨⟨rfl,rfl⟩,hy⟩) | ⟨⟨rfl,hy⟩,hy2⟩
  ·rcases hx2 with rfl | rfl
   ·simp only [txV,if_true,show ¬ (2:Int)=0 by decide,show ¬ (2:Int)=1 by decide,show ¬ (0:Int)=1 by decide,if_false,ey,List.cons_append,qj] at h
    exact absurd h.1.symm (nd cy dy).2.2
   ·simp only [txV,if_true,show ¬ (2:Int)=0 by decide,show ¬ (2:Int)=1 by decide,if_false,ey,List.cons_append,qj] at h
    exact absurd h.1.symm (nd cy dy).2.1
  ·rcases hx2 with rfl | rfl <;>simp [txV] at h
  ·have:=z3N hy; subst this;rcases hx2 with rfl | rfl <;>rcases hy2 with rfl | rfl <;>simp [txV] at h
   ·exact ⟨rfl,h⟩
   ·exact ⟨rfl,h⟩
theorem z9T {f g:Int} (hf:0<=f/\f<=3) (hg:0<=g/\g<=3) {u v:List UInt8} (h:fnT f++123::u=fnT g++123::v):f=g/\u=v:=by
 have c1:f=0\/f=1\/f=2\/f=3:=by omega
 have c2:g=0\/g=1\/g=2\/g=3:=by omega
 rcases c1 with rfl | rfl | rfl | rfl <;>rcases c2 with rfl | rfl | rfl | rfl <;>simp [fnT] at h <;>exact ⟨rfl,h⟩
theorem z90 {f g:Int} (hf:5<=f/\f<=10) (hg:5<=g/\g<=10) {u v:List UInt8} (h:opT f++32::u=opT g++32::v):f=g/\u=v:=by
 have c1:f=5\/f=6\/f=7\/f=8\/f=9\/f=10:=by omega
 have c2:g=5\/g=6\/g=7\/g=8\/g=9\/g=10:=by omega
 rcases c1 with rfl | rfl | rfl | rfl | rfl | rfl <;>rcases c2 with rfl | rfl | rfl | rfl | rfl | rfl <;>simp [opT] at h <;>exact ⟨rfl,h⟩
def SN:List UInt8:=[93,44,59,125]
def ST:List UInt8:=32::SN
def SF:List UInt8:=42::ST
def SA:List UInt8:=94::SF
theorem zZO:∀ c∈SA,zqg c=false:=by decide
theorem zbdl:∀ c∈ST,c∈SA:=by decide
theorem zZ1:∀ c∈SF,c∈SA:=by decide
def RdN (V:yB->Bool):Prop:=∀ a b,V a=true->V b=true->zfd a->zfd b->∀ u v,hd SN u->hd SN v->txN a++u=txN b++v->a=b/\u=v
def RdA (V:yB->Bool):Prop:=∀ x y,zd0 V x=true->zd0 V y=true->zfP x->zfP y->∀ u v,hd SA u->hd SA v->txA x++u=txA y++v->x=y/\u=v
theorem z9S {V:yB->Bool} {x:At} (h:zd0 V x=true):∃ c r,txA x=c::r/\zqg c=false:=by
 cases zdJ.1 h with
 | var r h=>rw [txA]; exact ⟨116,_,rfl,rfl⟩
 | mon a b _ _ _ _ _=>rw [txA]; exact ⟨109,_,rfl,rfl⟩
 | del a _ _ _ _=>rw [txA]; exact ⟨100,_,rfl,rfl⟩
 | abs a _ _ _=>rw [txA]; exact ⟨97,_,rfl,rfl⟩
 | tst f l o b _ _ _ _=>rw [txA]; exact ⟨116,_,rfl,rfl⟩
theorem z8k {V:yB->Bool} (hV:RdN V):RdA V:=by
 intro x y hx hy wx wy u v hu hv h;have Wx:=zqv wx;have Wy:=zqv wy;have k0:¬ (1:Int)=0:=by decide
 have c44:∀ z,hd SN (44::z):=λz=>zoD (by decide)
 have c93:∀ z,hd SN (93::z):=λz=>zoD (by decide)
 have tE:∀ (r:RowID),zDs r=true->rng r.Table->∀ w z,zeN r.Table++w≠101::z:=λr hr hg w z e=>by
  simp only [zDs,qc,qe] at hr;obtain ⟨d1,d2⟩:=z8y (show 0<=r.Table by omega) hg.2
  cases hl:zeN r.Table with
  | nil=>exact d2 hl
  | cons c s=>
   rw [hl] at e d1;simp only [List.cons_append,qj] at e;rw [List.all_cons,e.1] at d1;revert d1; simp [zqg]
 cases zdJ.1 hx with
 | var r hr=>
  have rr:=Wx.2.2.2.2.1;simp only at rr;cases zdJ.1 hy with
  | var r' hr'=>
   have rr':=Wy.2.2.2.2.1;simp only at rr';rw [txA,txA] at h;simp only [zcp,if_true,txR,List.cons_append,qj,true_and,List.append_assoc] at h;obtain ⟨h1,h2⟩:=ztc (zgJ rr.1) (zgJ rr'.1) (λc hc=>by simp only [List.head?_cons,qa] at hc; subst hc; rfl) (λc hc=>by simp only [List.head?_cons,qa] at hc; subst hc; rfl) h
   simp only [qj,true_and] at h2;obtain ⟨h3,h4⟩:=ztc (zgJ rr.2) (zgJ rr'.2) (hu.noDig zZO) (hv.noDig zZO) h2;obtain ⟨t,s⟩:=r; obtain ⟨t',s'⟩:=r';simp only at h1 h3;exact ⟨by rw [h1,h3],h4⟩
  | tst f l o b _ _ _ _=>
   rw [txA,txA] at h;simp only [zcp,if_true,txR,show ¬ (4:Int)=0 by decide,show ¬ (4:Int)=1 by decide,show ¬ (4:Int)=2 by decide,show ¬ (4:Int)=3 by decide,if_false,List.cons_append,qj,true_and,List.append_assoc] at h
   exact absurd h (tE r hr (zgJ rr.1) _ _)
  | mon a b _ _ _ _ _=>rw [txA,txA] at h; simp [zcp,txR] at h
  | del a _ _ _ _=>rw [txA,txA] at h; simp [zcp,txR] at h
  | abs a _ _ _=>rw [txA,txA] at h; simp [zcp,txR] at h
 | mon a b ha hb _ _ _=>
  cases zdJ.1 hy with
  | mon a' b' ha' hb' _ _ _=>
   rw [txA,txA,zh3,zh3] at h;simp only [zcp,if_true,k0,if_false,List.map,List.getD_cons_zero,List.getD_cons_succ,List.cons_append,qj,true_and,List.append_assoc,List.nil_append] at h;have wa:=λz hz=>(zjM Wx.1.1 z hz).1
   have wb:=λz hz=>(zjM Wy.1.1 z hz).1
   obtain ⟨h1,h2⟩:=hV a a' ha ha' (wa a (by simp)) (wb a' (by simp)) _ _ (c44 _) (c44 _) h
   simp only [qj,true_and] at h2;obtain ⟨h3,h4⟩:=hV b b' hb hb' (wa b (by simp)) (wb b' (by simp)) _ _ (c93 _) (c93 _) h2
   simp only [qj,true_and] at h4;exact ⟨by rw [h1,h3],h4⟩
  | var r h=>rw [txA,txA] at h; simp [zcp,txR] at h
  | del a _ _ _ _=>rw [txA,txA] at h; simp [zcp,txR] at h
  | abs a _ _ _=>rw [txA,txA] at h; simp [zcp,txR] at h
  | tst f l o b _ _ _ _=>rw [txA,txA] at h; simp [zcp,txR] at h
 | del a ha _ _ _=>
  cases zdJ.1 hy with
  | del a' ha' _ _ _=>
   rw [txA,txA,zh3,zh3] at h;simp only [zcp,if_true,show ¬ (2:Int)=0 by decide,show ¬ (2:Int)=1 by decide,if_false,List.map,List.getD_cons_zero,List.cons_append,qj,true_and,List.append_assoc,List.nil_append] at h
   have wa:=λz hz=>(zjM Wx.1.1 z hz).1
   have wb:=λz hz=>(zjM Wy.1.1 z hz).1
   obtain ⟨h1,h2⟩:=hV a a' ha ha' (wa a (by simp)) (wb a' (by simp)) _ _ (c93 _) (c93 _) h
   simp only [qj,true_and] at h2;exact ⟨by rw [h1],h2⟩
  | var r h=>rw [txA,txA] at h; simp [zcp,txR] at h
  | mon a b _ _ _ _ _=>rw [txA,txA] at h; simp [zcp,txR] at h
  | abs a _ _ _=>rw [txA,txA] at h; simp [zcp,txR] at h
  | tst f l o b _ _ _ _=>rw [txA,txA] at h; simp [zcp,txR] at h
 | abs a ha _ _=>
  cases zdJ.1 hy with
  | abs a' ha' _ _=>
   rw [txA,txA,zh3,zh3] at h;simp only [zcp,if_true,show ¬ (3:Int)=0 by decide,show ¬ (3:Int)=1 by decide,show ¬ (3:Int)=2 by decide,if_false,List.map,List.getD_cons_zero,List.cons_append,qj,true_and,List.append_assoc,List.nil_append] at h
   have wa:=λz hz=>(zjM Wx.1.1 z hz).1
   have wb:=λz hz=>(zjM Wy.1.1 z hz).1
   obtain ⟨h1,h2⟩:=hV a a' ha ha' (wa a (by simp)) (wb a' (by simp)) _ _ (c93 _) (c93 _) h
   simp only [qj,true_and] at h2;exact ⟨by rw [h1],h2⟩
  | var r h=>rw [txA,txA] at h; simp [zcp,txR] at h
  | mon a b _ _ _ _ _=>rw [txA,txA] at h; simp [zcp,txR] at h
  | del a _ _ _ _=>rw [txA,txA] at h; simp [zcp,txR] at h
  | tst f l o b _ _ _ _=>rw [txA,txA] at h; simp [zcp,txR] at h
 | tst f l o b hl hi hs hf=>
  cases zdJ.1 hy with
  | tst f' l' o' b' hl' hi' hs' hf'=>
   obtain ⟨⟨f0,f3,o5,o10⟩,hb,hit⟩:=zqA hf;obtain ⟨⟨f0',f3',o5',o10'⟩,hb',hit'⟩:=zqA hf';have wl:=zjo Wx.2.1.1;have wl':=zjo Wy.2.1.1;rw [txA,txA,zDn,zDn] at h;simp only [zcp,show ¬ (4:Int)=0 by decide,show ¬ (4:Int)=1 by decide,show ¬ (4:Int)=2 by decide,show ¬ (4:Int)=3 by decide,if_false,List.cons_append,qj,true_and,List.append_assoc,List.nil_append] at h
   obtain ⟨h1,h2⟩:=z9T ⟨f0,f3⟩ ⟨f0',f3'⟩ h
   obtain ⟨h3,h4⟩:=zKB txI [125] 59 [32] (λw=>(V w.Ann=true/\zfd w.Ann)/\zh6 w.Value=true/\rng w.Value.Int) (by decide) (λx y px py u v hu hv e=>by
    simp only [txI,List.append_assoc,List.cons_append,List.nil_append] at e;obtain ⟨e1,e2⟩:=z5w px.2.1 py.2.1 px.2.2 py.2.2 (zoD (by decide)) (zoD (by decide)) e
    simp only [qj,true_and] at e2;obtain ⟨e3,e4⟩:=hV _ _ px.1.1 py.1.1 px.1.2 py.1.2 u v (hu.mono (by decide)) (hv.mono (by decide)) e2
    obtain ⟨vx,ax⟩:=x; obtain ⟨vy,ay⟩:=y;simp only at e1 e3;exact ⟨by rw [e1,e3],e4⟩) l l' hl hl' (λw hw=>⟨⟨(hi w hw).1,(wl w hw).2.1⟩,(hit w hw).1,zgJ (wl w hw).1.2.1⟩) (λw hw=>⟨⟨(hi' w hw).1,(wl' w hw).2.1⟩,(hit' w hw).1,zgJ (wl' w hw).1.2.1⟩) _ _ (zoD (by decide)) (zoD (by decide)) h2
   simp only [qj,true_and] at h4;obtain ⟨h5,h6⟩:=z90 ⟨o5,o10⟩ ⟨o5',o10'⟩ h4;obtain ⟨h7,h8⟩:=z5w hb hb' (zgJ Wx.2.2.1.2.1) (zgJ Wy.2.2.1.2.1) (zoD (by decide)) (zoD (by decide)) h6
   simp only [qj,true_and] at h8;exact ⟨by rw [h1,h3,h5,h7],h8⟩
  | var r hr=>
   have rr:=Wy.2.2.2.2.1;simp only at rr;rw [txA,txA] at h;simp only [zcp,if_true,txR,show ¬ (4:Int)=0 by decide,show ¬ (4:Int)=1 by decide,show ¬ (4:Int)=2 by decide,show ¬ (4:Int)=3 by decide,if_false,List.cons_append,qj,true_and,List.append_assoc] at h
   exact absurd h.symm (tE r hr (zgJ rr.1) _ _)
  | mon a b _ _ _ _ _=>rw [txA,txA] at h; simp [zcp,txR] at h
  | del a _ _ _ _=>rw [txA,txA] at h; simp [zcp,txR] at h
  | abs a _ _ _=>rw [txA,txA] at h; simp [zcp,txR] at h
def gF (V:yB->Bool) (f:Fc):Prop:=zd0 V f.At=true/\zfP f.At/\rng f.Exp
theorem zbb4 {V:yB->Bool} (hA:RdA V) {f g:Fc} (hf:gF V f) (hg:gF V g) {u v:List UInt8} (hu:hd SF u) (hv:hd SF v) (h:txF f++u=txF g++v):f=g/\u=v:=by
 obtain ⟨x,e⟩:=f; obtain ⟨y,e'⟩:=g;obtain ⟨a1,a2,a3⟩:=hf; obtain ⟨b1,b2,b3⟩:=hg;simp only at a1 a2 a3 b1 b2 b3;have c94:∀ z,hd SA (94::z):=λz=>zoD (by decide)
 have n94:(94:UInt8)∉SF:=by decide
 have dg:∀ c∈SF,zqg c=false:=λc hc=>zZO c (zZ1 c hc)
 unfold txF zA7 at h;simp only at h;by_cases h1:e=1
 ·by_cases h2:e'=1
  ·rw [if_pos h1,if_pos h2] at h;obtain ⟨q1,q2⟩:=hA x y a1 b1 a2 b2 u v (hu.mono zZ1) (hv.mono zZ1) h;exact ⟨by rw [q1,h1,h2],q2⟩
  ·rw [if_pos h1,if_neg h2,List.append_assoc] at h;obtain ⟨q1,q2⟩:=hA x y a1 b1 a2 b2 u _ (hu.mono zZ1) (c94 _) h;rw [q2] at hu;exact (hu.cons_ne n94).elim
 ·by_cases h2:e'=1
  ·rw [if_neg h1,if_pos h2,List.append_assoc] at h;obtain ⟨q1,q2⟩:=hA x y a1 b1 a2 b2 _ v (c94 _) (hv.mono zZ1) h;rw [<- q2] at hv;exact (hv.cons_ne n94).elim
  ·rw [if_neg h1,if_neg h2,List.append_assoc,List.append_assoc] at h;obtain ⟨q1,q2⟩:=hA x y a1 b1 a2 b2 _ _ (c94 _) (c94 _) h;simp only [List.cons_append,qj,true_and] at q2;obtain ⟨q3,q4⟩:=ztc a3 b3 (hu.noDig dg) (hv.noDig dg) q2;exact ⟨by rw [q1,q3],q4⟩
theorem z0F {V:yB->Bool} (hA:RdA V) {l l':yC} (hl:l≠[]) (hl':l'≠[]) (h1:∀ f∈l,gF V f) (h2:∀ f∈l',gF V f) {u v:List UInt8} (hu:hd ST u) (hv:hd ST v) (h:txL l++u=txL l'++v):l=l'/\u=v:=by
 unfold txL at h;rw [zmv,zmv] at h;exact zKB txF ST 42 [] (gF V) (by decide) (λx y px py u v hu hv e=>zbb4 hA px py hu hv e) l l' hl hl' h1 h2 u v hu hv h
theorem zDa {V:yB->Bool} {l:yC} (hl:l≠[]) (h:∀ f∈l,gF V f):∃ c r,txL l=c::r/\zqg c=false:=by
 cases l with
 | nil=>exact absurd rfl hl
 | cons f r=>
  obtain ⟨c,s,e,hc⟩:=z9S (h f (by simp)).1
  have:∃ s',txF f=c::s':=by
   unfold txF zA7;split
   ·exact ⟨s,e⟩
   ·exact ⟨_,by rw [e]; rfl⟩
  obtain ⟨s',e'⟩:=this;unfold txL;rw [zmv];cases r with
  | nil=>exact ⟨c,s',by simp only [List.map,zbr]; exact e',hc⟩
  | cons g r=>exact ⟨c,_,by simp only [List.map,zbr]; rw [e']; rfl,hc⟩
def gT (V:yB->Bool) (t:Term):Prop:=(1<=t.Cf/\t.Cf<=9223372036854775807)/\∀ f∈t.Fs,gF V f
theorem z1N {n:Int} (h:1<=n) (h2:n<=9223372036854775807):∃ c r,zeN n=c::r/\zqg c=true/\c≠48:=by
 have e:zeN n=Lib.decDigits n.toNat:=by rw [zYe (by omega) h2,Lib.itoa,if_neg (by omega)]
 obtain ⟨a1,a2,a3,a4⟩:=zT8 n.toNat n.toNat (Nat.le_refl _);rw [e];cases hl:Lib.decDigits n.toNat with
 | nil=>exact absurd hl a3
 | cons c r=>
  rw [hl] at a1 a4;rw [List.all_cons,qc] at a1;exact ⟨c,r,rfl,a1.1,λe=>a4 (by omega) (by rw [e]; rfl)⟩
theorem z5m {l:yC}:zCL l=[]↔l=[]:=by rw [zmv,List.map_eq_nil_iff]
theorem z4E (t:Term):txT t=if t.Fs=[] then zeN t.Cf else if t.Cf=1 then txL t.Fs else zeN t.Cf++42::txL t.Fs:=by
 unfold txT zHv;by_cases h:t.Fs=[]
 ·rw [if_pos (z5m.2 h),if_pos h]
 ·rw [if_neg (λe=>h (z5m.1 e)),if_neg h]; rfl
theorem zbch {V:yB->Bool} (hA:RdA V) {s t:Term} (hs:gT V s) (ht:gT V t) {u v:List UInt8} (hu:hd ST u) (hv:hd ST v) (h:txT s++u=txT t++v):s=t/\u=v:=by
 obtain ⟨c,l⟩:=s; obtain ⟨c',l'⟩:=t;obtain ⟨⟨c1,c2⟩,h1⟩:=hs; obtain ⟨⟨c1',c2'⟩,h2⟩:=ht;simp only at c1 c2 h1 c1' c2' h2;have dg:∀ c∈ST,zqg c=false:=λc hc=>zZO c (zbdl c hc)
 have n42:(42:UInt8)∉ST:=by decide
 have d42:∀ z,noDig (42::z):=λz c hc=>by simp only [List.head?_cons,qa] at hc; subst hc; rfl
 have rc:rng c:=⟨by omega,c2⟩
 have rc':rng c':=⟨by omega,c2'⟩
 obtain ⟨d,r,e,hd,_⟩:=z1N c1 c2;obtain ⟨d',r',e',hd',_⟩:=z1N c1' c2';rw [z4E,z4E] at h;simp only at h;by_cases l0:l=[]
 ·rw [if_pos l0] at h;by_cases l0':l'=[]
  ·rw [if_pos l0'] at h;obtain ⟨q1,q2⟩:=ztc rc rc' (hu.noDig dg) (hv.noDig dg) h;exact ⟨by rw [q1,l0,l0'],q2⟩
  ·rw [if_neg l0'] at h;by_cases k':c'=1
   ·rw [if_pos k'] at h;obtain ⟨d2,r2,e2,hd2⟩:=zDa l0' h2;rw [e,e2] at h;simp only [List.cons_append,qj] at h;rw [h.1,hd2] at hd; cases hd
   ·rw [if_neg k',List.append_assoc] at h;obtain ⟨q1,q2⟩:=ztc rc rc' (hu.noDig dg) (d42 _) h;rw [q2] at hu;exact (hu.cons_ne n42).elim
 ·rw [if_neg l0] at h;by_cases k:c=1
  ·rw [if_pos k] at h;obtain ⟨d2,r2,e2,hd2⟩:=zDa l0 h1;by_cases l0':l'=[]
   ·rw [if_pos l0',e2,e'] at h;simp only [List.cons_append,qj] at h;rw [<- h.1,hd2] at hd'; cases hd'
   ·rw [if_neg l0'] at h;by_cases k':c'=1
    ·rw [if_pos k'] at h;obtain ⟨q1,q2⟩:=z0F hA l0 l0' h1 h2 hu hv h;exact ⟨by rw [q1,k,k'],q2⟩
    ·rw [if_neg k',e2,e'] at h;simp only [List.cons_append,qj] at h;rw [<- h.1,hd2] at hd'; cases hd'
  ·rw [if_neg k,List.append_assoc] at h;by_cases l0':l'=[]
   ·rw [if_pos l0'] at h;obtain ⟨q1,q2⟩:=ztc rc rc' (d42 _) (hv.noDig dg) h;rw [<- q2] at hv;exact (hv.cons_ne n42).elim
   ·rw [if_neg l0'] at h;by_cases k':c'=1
    ·rw [if_pos k'] at h;obtain ⟨d2,r2,e2,hd2⟩:=zDa l0' h2;rw [e,e2] at h;simp only [List.cons_append,qj] at h;rw [h.1,hd2] at hd; cases hd
    ·rw [if_neg k',List.append_assoc] at h;obtain ⟨q1,q2⟩:=ztc rc rc' (d42 _) (d42 _) h;simp only [List.cons_append,qj,true_and] at q2;obtain ⟨q3,q4⟩:=z0F hA l0 l0' h1 h2 hu hv q2;exact ⟨by rw [q1,q3],q4⟩
theorem z9t {V:yB->Bool} {t:Term} (ht:gT V t):∃ c r,txT t=c::r/\c≠48:=by
 obtain ⟨⟨c1,c2⟩,h1⟩:=ht;obtain ⟨d,r,e,hd,h48⟩:=z1N c1 c2;rw [z4E];by_cases l0:t.Fs=[]
 ·rw [if_pos l0]; exact ⟨d,r,e,h48⟩
 ·rw [if_neg l0];split
  ·obtain ⟨d2,r2,e2,hd2⟩:=zDa l0 h1;exact ⟨d2,r2,e2,λe=>by rw [e] at hd2; revert hd2; decide⟩
  ·exact ⟨d,_,by rw [e]; rfl,h48⟩
theorem zbb6 {V:yB->Bool} (hA:RdA V) {a b:yB} (ha:∀ t∈a,gT V t) (hb:∀ t∈b,gT V t) {u v:List UInt8} (hu:hd SN u) (hv:hd SN v) (h:txN a++u=txN b++v):a=b/\u=v:=by
 have en:∀ z:yB,z≠[]->txN z=zbr (z.map txT) [32,43,32]:=λz hz=>by
  unfold txN zKO; rw [zHR,if_neg (by simpa using hz)]
 have e0:txN []=[48]:=by unfold txN zKO; rw [zLW,if_pos rfl]
 have h48:∀ z:yB,z≠[]->(∀ t∈z,gT V t)->∃ c r,txN z=c::r/\c≠48:=λz hz hg=>by
  rw [en z hz];cases z with
  | nil=>exact absurd rfl hz
  | cons t r=>
   obtain ⟨c,s,e,hc⟩:=z9t (hg t (by simp))
   cases r with
   | nil=>exact ⟨c,s,by simp only [List.map,zbr]; exact e,hc⟩
   | cons t' r=>exact ⟨c,_,by simp only [List.map,zbr]; rw [e]; rfl,hc⟩
 by_cases a0:a=[]
 ·by_cases b0:b=[]
  ·rw [a0,b0] at h;exact ⟨by rw [a0,b0],List.append_cancel_left h⟩
  ·obtain ⟨c,r,e,hc⟩:=h48 b b0 hb;rw [a0,e0,e] at h;simp only [List.cons_append,qj] at h;exact absurd h.1.symm hc
 ·by_cases b0:b=[]
  ·obtain ⟨c,r,e,hc⟩:=h48 a a0 ha;rw [b0,e0,e] at h;simp only [List.cons_append,qj] at h;exact absurd h.1 hc
  ·rw [en a a0,en b b0] at h;exact zKB txT SN 32 [43,32] (gT V) (by decide) (λx y px py u v hu hv e=>zbch hA px py hu hv e) a b a0 b0 ha hb u v hu hv h
theorem zbam:∀ m,RdN (zbU m)/\RdA (zbU m):=by
 intro m;induction m with
 | zero=>
  have:RdN (zbU 0):=λa b ha=>by cases ha
  exact ⟨this,z8k this⟩
 | succ m ih=>
  have:RdN (zbU (m+1)):=λa b ha hb wa wb u v hu hv h=>by
   have key:∀ z,zbU (m+1) z=true->zfd z->∀ t∈z,gT (zbU m) t:=λz hz wz t ht=>by
    obtain ⟨⟨c1,c2⟩,hok⟩:=zlr hz ht;have hwt:=zmL (ztX (zqw wz t ht)).2.1;exact ⟨⟨c1,by omega⟩,λf hf=>⟨(ziB hok hf).2,(zpe (hwt f hf)).1,zgJ (zpe (hwt f hf)).2⟩⟩
   exact zbb6 ih.2 (key a ha wa) (key b hb wb) hu hv h
  exact ⟨this,z8k this⟩
theorem zbbi {m:Nat} {l l':yC} (h1:∀ f∈l,gF (zbU m) f) (h2:∀ f∈l',gF (zbU m) f) (h:txL l=txL l'):l=l':=by
 have e0:txL []=[]:=by unfold txL; rw [zCL]; rfl
 by_cases l0:l=[]
 ·by_cases l0':l'=[]
  ·rw [l0,l0']
  ·obtain ⟨c,r,e,_⟩:=zDa l0' h2;rw [l0,e0,e] at h; cases h
 ·by_cases l0':l'=[]
  ·obtain ⟨c,r,e,_⟩:=zDa l0 h1;rw [l0',e0,e] at h; cases h
  ·exact (z0F (zbam m).2 l0 l0' h1 h2 (u:=[]) (v:=[]) (λc hc=>by cases hc) (λc hc=>by cases hc) (by rw [h])).1
section
variable {α β ρ σ τ:Type} [Inhabited τ]
def zZb (f:σ->τ->σ⊕ρ):List τ->σ->σ⊕ρ
 | [],s=>.inl s
 | x::r,s=>match f s x with
  | .inl u=>zZb f r u
  | .inr v=>.inr v
def z9y (res:σ->ρ):σ⊕ρ->ρ
 | .inl s=>res s
 | .inr v=>v
theorem zZz {W:α->β->Wy α β ρ} {z:ρ} (l:List τ) (ex:Nat->σ->α) (ey:Nat->σ->β) (f:σ->τ->σ⊕ρ) (res:σ->ρ) (I:Nat->σ->Prop)
  (h:∀ i s,i<l.length->I i s->(∀ u,f s (l.getD i default)=.inl u->I (i+1) u)/\∀ (H:α->β->Bool×ρ) K D,(W (ex i s) (ey i s)).ev H K D=match f s (l.getD i default) with | .inl u=>H (ex (i+1) u) (ey (i+1) u) | .inr v=>K v)
  (he:∀ s,I l.length s->∀ (H:α->β->Bool×ρ) K D,(W (ex l.length s) (ey l.length s)).ev H K D=K (res s)):
  ∀ n i s,l.length<i+n->i<=l.length->I i s->zB W z n (ex i s) (ey i s)=(true,z9y res (zZb f (l.drop i) s))
 | 0,i,s,h1,h2,_=>by omega
 | n+1,i,s,h1,h2,hI=>by
  show (W (ex i s) (ey i s)).ev (zB W z n) (λr=>(true,r)) (false,z)=_
  by_cases hi:i<l.length
  ·obtain ⟨a1,a2⟩:=h i s hi hI;rw [a2,zbH hi];show _=(true,z9y res (match f s (l.getD i default) with | .inl u=>zZb f (l.drop (i+1)) u | .inr v=>.inr v))
   cases hf:f s (l.getD i default) with
   | inl u=>exact zZz l ex ey f res I h he n (i+1) u (by omega) (by omega) (a1 u hf)
   | inr v=>rfl
  ·have:i=l.length:=by omega
   subst this;rw [he s hI,zdn hi]; rfl
theorem z5Z {W:α->β->Wy α β ρ} {z:ρ} (l:List τ) (ex:Nat->σ->α) (ey:Nat->σ->β) (f:σ->τ->σ⊕ρ) (res:σ->ρ) (I:Nat->σ->Prop)
  (h:∀ i s,i<l.length->I i s->(∀ u,f s (l.getD i default)=.inl u->I (i+1) u)/\∀ (H:α->β->Bool×ρ) K D,(W (ex i s) (ey i s)).ev H K D=match f s (l.getD i default) with | .inl u=>H (ex (i+1) u) (ey (i+1) u) | .inr v=>K v)
  (he:∀ s,I l.length s->∀ (H:α->β->Bool×ρ) K D,(W (ex l.length s) (ey l.length s)).ev H K D=K (res s)) (n:Nat) (s:σ) (hn:l.length<n) (h0:I 0 s):
  zB W z n (ex 0 s) (ey 0 s)=(true,z9y res (zZb f l s)):=by
 have:=zZz (z:=z) l ex ey f res I h he n 0 s (by omega) (by omega) h0
 simpa using this
theorem z57 {W:α->β->Wy α β ρ} {z:ρ} (l:List τ) (ex:Nat->σ->α) (ey:Nat->σ->β) (f:σ->τ->σ) (res:σ->ρ) (I:Nat->σ->Prop)
  (h:∀ i s,i<l.length->I i s->I (i+1) (f s (l.getD i default))/\∀ (H:α->β->Bool×ρ) K D,(W (ex i s) (ey i s)).ev H K D=H (ex (i+1) (f s (l.getD i default))) (ey (i+1) (f s (l.getD i default))))
  (he:∀ s,I l.length s->∀ (H:α->β->Bool×ρ) K D,(W (ex l.length s) (ey l.length s)).ev H K D=K (res s)) (n:Nat) (s:σ) (hn:l.length<n) (h0:I 0 s):
  zB W z n (ex 0 s) (ey 0 s)=(true,res (l.foldl f s)):=by
 have e:=z5Z (z:=z) l ex ey (λs x=>(.inl (f s x):σ⊕ρ)) res I (λi s hi hs=>⟨λu hu=>by rw [Sum.inl.injEq] at hu; rw [<- hu]; exact (h i s hi hs).1,(h i s hi hs).2⟩) he n s hn h0
 rw [e]
 have k:∀ (l:List τ) (s:σ),zZb (λs x=>(.inl (f s x):σ⊕ρ)) l s=.inl (l.foldl f s):=by
  intro l;induction l with
  | nil=>intro s; rfl
  | cons x r ih=>intro s; exact ih _
 rw [k]; rfl
end
theorem okN (n m:Nat) (h:n+m<=9223372036854775807):decide (n+m<=9223372036854775807)=true:=decide_eq_true h
theorem z8F {v:Value} (h:zh6 v=true):v.Kind=0\/v.Kind=1\/v.Kind=2:=by
 simp only [zh6,Bool.or_eq_true,qc,beq_iff_eq,qe] at h;omega
theorem z7l {z:Int} (h0:0<=z) (h1:z<18446744073709551616):IntKind.u64.wrap z=z:=by
 have e1:(2:Int) ^ 64=18446744073709551616:=rfl;simp only [IntKind.wrap,IntKind.bits,IntKind.signed,Bool.false_and,e1];simp only [Bool.false_eq_true,if_false];omega
theorem zbaF {z:Int} (h0: -18446744073709551616<=z) (h1:z<0):IntKind.u64.wrap z=z+18446744073709551616:=by
 have e1:(2:Int) ^ 64=18446744073709551616:=rfl;simp only [IntKind.wrap,IntKind.bits,IntKind.signed,Bool.false_and,e1];simp only [Bool.false_eq_true,if_false];omega
theorem zbcD {n:Nat} (h:n<10):List.foldl (λr n=>r.push (UInt8.ofNat n.toNat)) ByteArray.empty [IntKind.u8.wrap (IntKind.u64.wrap ((48:Int)+(n:Int)))]=bs [UInt8.ofNat (48+n)]:=by
 match n,h with
 | 0,_ | 1,_ | 2,_ | 3,_ | 4,_ | 5,_ | 6,_ | 7,_ | 8,_ | 9,_=>rfl
theorem zWx:∀ (k m n:Nat),n<10 ^ (k+1)->n<=9223372036854775808->zoE (k+1+m) (n:Int)=(true,bs (Lib.decDigits n))
 | k,m,n,hn,hm=>by
  rw [show k+1+m=(k+m)+1 by omega,zVQ]
  unfold zxc zHz;rw [Wy.fin_i];by_cases h:n<10
  ·rw [decide_eq_true (show (n:Int)<10 by omega),Lib.decDigits,dif_pos h,cond_true,Wy.fin_k,zbcD h]
  ·rw [decide_eq_false (show ¬ (n:Int)<10 by omega),cond_false]
   cases k with
   | zero=>simp at hn; omega
   | succ k=>
    have e1:IntKind.u64.wrap ((n:Int).tdiv (10:Int))=((n / 10:Nat):Int):=by
     rw [show (n:Int).tdiv (10:Int)=((n / 10:Nat):Int) from rfl,z7l (by omega) (by omega)]
    have e2:(n:Int).tmod (10:Int)=((n % 10:Nat):Int):=rfl;have hd:n / 10<10 ^ (k+1):=by rw [Nat.pow_succ] at hn; omega
    rw [Wy.fin_bn,e1,e2,show k+1+m=k+1+m from rfl,zWx k m (n / 10) hd (by omega),cond_true,zbcD (show n % 10<10 by omega)]
    have l1:(Lib.decDigits (n / 10)).length<=20:=by
     have:=zNQ 20 (n / 10) (by omega)
     rcases this with h' | h'
     ·rw [<- h']; exact zHA _ _
     ·omega
    have l3:Lib.decDigits n=Lib.decDigits (n / 10)++[UInt8.ofNat (48+n % 10)]:=by rw [Lib.decDigits,dif_neg h]
    rw [Wy.fin_i,l3,zbJ,zbJ,okN _ _ (by rw [List.length_singleton]; omega),cond_true,Wy.fin_k,zc9]
theorem zKI {n:Nat} (h:n<=9223372036854775808):zAT (n:Int)=(true,bs (zwg 20 n)):=by
 show zoE 1000 n=_;rw [show (1000:Nat)=19+1+980 from rfl,zWx 19 980 n (by omega) h,(zNQ 20 n (by omega)).resolve_right (by omega)]
theorem zA9 {n:Int} (h:rng n):zd8 n=(true,bs (zeN n)):=by
 unfold zd8 zKD zeN;obtain ⟨h1,h2⟩:=h;rw [Wy.fin_i];by_cases hn:n<0
 ·have e:IntKind.u64.wrap ((0:Int) - IntKind.u64.wrap n)=((n.natAbs:Nat):Int):=by
   rw [zbaF (z:=n) (by omega) hn]
   by_cases hz:(0:Int) - (n+18446744073709551616)<0
   ·rw [zbaF (by omega) hz]; omega
   ·rw [z7l (by omega) (by omega)]; omega
  have hl:=zHA 20 n.natAbs;rw [decide_eq_true hn,cond_true,Wy.fin_bn,e,zKI (by omega),cond_true,Wy.fin_i,show ByteArray.mk #[(45:UInt8)]=bs [45] from rfl,zbJ,zbJ,okN _ _ (by rw [List.length_singleton]; omega),cond_true,Wy.fin_k,zc9]
  rfl
 ·have e:IntKind.u64.wrap n=((n.toNat:Nat):Int):=by rw [z7l (by omega) (by omega)]; omega
  rw [decide_eq_false hn,cond_false,Wy.fin_bn,e,zKI (by omega)]
  rfl
theorem z7c (s:ByteArray) {i:Nat} (h:i<s.size):s.extract i (i+1)=bs [s.data.toList.getD i 0]:=by
 have hl:i<s.data.toList.length:=by rw [<- Lib.size_eq]; exact h
 refine zwS ?_;rw [zl7,ByteArray.data_extract,Array.toList_extract,List.extract_eq_take_drop];rw [List.drop_eq_getElem_cons hl,show i+1 - i=1 by omega,List.take_succ_cons,List.take_zero,List.getD_eq_getElem?_getD,List.getElem?_eq_getElem hl]
 rfl
theorem z9d (s:ByteArray) {i:Nat} (h:i<s.size):zMs s (i:Int)=((s.data.toList.getD i 0).toNat:Int):=by
 have hl:i<s.data.toList.length:=by rw [<- Lib.size_eq]; exact h
 unfold zMs;rw [Int.toNat_natCast,dif_pos h,List.getD_eq_getElem?_getD,List.getElem?_eq_getElem hl];rfl
theorem zYf (v:Value) (hs:v.Text.size<=255):∀ (n i:Nat) (o:List UInt8),v.Text.size<i+n->i<=v.Text.size->o.length<=1+2*i->zyZ n (bs o) i v=(true,bs (o++(v.Text.data.toList.drop i).flatMap esc))
 | 0,i,o,h,h2,_=>by omega
 | n+1,i,o,h,h2,h3=>by
  have hsz:v.Text.data.toList.length=v.Text.size:=by rw [Array.length_toList]; rfl
  show (zzl (bs o) i v).ev (zB zy2 default n) (λr=>(true,r)) (false,default)=_
  unfold zzl;by_cases hi:i<v.Text.size
  ·have hw:IntKind.i64.wrap ((i:Int)+1)=((i+1:Nat):Int):=zX (by omega)
   have c1:decide ((i:Int)<Int.ofNat v.Text.size)=true:=decide_eq_true (by show (i:Int)<(v.Text.size:Int); omega)
   have c2:(decide ((0:Int)<=(i:Int))&&decide ((i:Int)<=((i+1:Nat):Int))&&decide (((i+1:Nat):Int)<=Int.ofNat v.Text.size))=true:=by
    rw [decide_eq_true (show (0:Int)<=(i:Int) by omega),decide_eq_true (show (i:Int)<=((i+1:Nat):Int) by omega),decide_eq_true (show ((i+1:Nat):Int)<=Int.ofNat v.Text.size by show ((i+1:Nat):Int)<=(v.Text.size:Int); omega)]; rfl
   have c3:(decide ((0:Int)<=(i:Int))&&decide ((i:Int)<Int.ofNat v.Text.size))=true:=by rw [c1,decide_eq_true (by omega)]; rfl
   rw [Wy.ev_i,Wy.ev_i,Wy.ev_i,Wy.ev_i,Wy.ev_i,hw,c3,c1,c2];simp only [cond_true,Int.toNat_natCast,z7c v.Text hi,z9d v.Text hi,zc9,zbJ];rw [zbH (l:=v.Text.data.toList) (by omega)]
   show _=(true,bs (o++((v.Text.data.toList.getD i 0)::v.Text.data.toList.drop (i+1)).flatMap esc));generalize v.Text.data.toList.getD i 0=c;rw [okN _ _ (by rw [List.length_singleton]; omega),cond_true,List.flatMap_cons]
   by_cases hc:c=39
   ·subst hc;have e39:(((39:UInt8).toNat:Int)==(39:Int))=true:=rfl;rw [e39,cond_true,show ByteArray.mk #[(39:UInt8)]=bs [39] from rfl,Wy.ev_i]
    simp only [zc9,zbJ];rw [okN _ _ (by simp only [qg,List.length_singleton]; omega),cond_true,Wy.ev_h]
    have ih:=zYf v hs n (i+1) (o++[39]++[39]) (by omega) (by omega) (by simp only [qg,List.length_singleton]; omega)
    refine Eq.trans ih ?_;rw [show esc 39=[39,39] from rfl]
    simp
   ·have hne:((c.toNat:Int)==(39:Int))=false:=by
     rw [ziP,decide_eq_false];intro e;exact hc (UInt8.toNat_inj.1 (by show c.toNat=39; omega))
    rw [hne,cond_false,Wy.ev_h];have ih:=zYf v hs n (i+1) (o++[c]) (by omega) (by omega) (by simp only [qg,List.length_singleton]; omega)
    refine Eq.trans ih ?_;rw [show esc c=[c] by unfold esc; rw [if_neg hc]]
    simp
  ·have c1:decide ((i:Int)<Int.ofNat v.Text.size)=false:=decide_eq_false (by show ¬ (i:Int)<(v.Text.size:Int); omega)
   rw [Wy.ev_i,c1,cond_false,Wy.ev_k,zdn (l:=v.Text.data.toList) (by omega)]
   simp
theorem zGX {v:Value} (h:zh6 v=true) (hr:rng v.Int):zjG v=(true,bs (txV v)):=by
 have ht:=zqY h;have hk:=z8F h;have h2:=zUN v.Text.data.toList;have h3:v.Text.data.toList.length=v.Text.size:=by rw [Array.length_toList]; rfl
 unfold zjG zMA txV;rw [Wy.fin_bn,zxh,h,cond_true,Wy.fin_i,Bool.not_true,cond_false,Wy.fin_i,ziP];by_cases k0:v.Kind=0
 ·rw [decide_eq_true k0,if_pos k0,cond_true,Wy.fin_bn,zA9 hr]; rfl
 ·rw [decide_eq_false k0,if_neg k0,cond_false,Wy.fin_i,ziP];by_cases k2:v.Kind=2
  ·rw [decide_eq_true k2,cond_true,Wy.fin_i,ziP,if_neg (show ¬ v.Kind=1 by omega)]
   by_cases i1:v.Int=1
   ·rw [decide_eq_true i1,if_pos i1]; rfl
   ·rw [decide_eq_false i1,if_neg i1]; rfl
  ·have k1:v.Kind=1:=by omega
   rw [decide_eq_false k2,if_pos k1,cond_false,Wy.fin_bn,show ByteArray.mk #[(39:UInt8)]=bs [39] from rfl]
   have key:∀ n,v.Text.size<n->zyZ n (bs [39]) (0:Int) v=(true,bs ([39]++v.Text.data.toList.flatMap esc)):=λn hn=>by
    have:=zYf v ht n 0 [39] (by omega) (by omega) (by simp)
    rw [List.drop_zero] at this;exact this
   rw [key _ (by rw [zbJ,List.length_singleton]; omega),cond_true,Wy.fin_i,zbJ,zbJ,okN _ _ (by simp only [qg,List.length_singleton]; omega),cond_true,Wy.fin_k,zc9]
   rfl
def zAC (l:yG):List UInt8:=zbr (l.map txV) [44,32]
theorem z82 (l:yG) (x:Value) (h:l≠[]):zAC (l++[x])=zAC l++([44,32]++txV x):=by
 unfold zAC;induction l with
 | nil=>exact absurd rfl h
 | cons y r ih=>
  cases r with
  | nil=>simp [zbr]
  | cons z r=>
   have:=ih (by simp)
   simp only [List.map_cons,List.cons_append,zbr] at this ⊢;rw [this];simp [List.append_assoc]
theorem zXn (l:yG) (h:∀ v∈l,zh6 v=true):(zAC l).length<=l.length*514:=by
 have:=zs5 (B:=514) (l.map txV) [44,32] (λx hx=>by
  obtain ⟨v,hv,rfl⟩:=List.mem_map.1 hx;have:=zsF (h v hv);simp; omega)
 rwa [List.length_map] at this
theorem zX4 (l:yG) (hl:l.length<=1000) (hv:∀ v∈l,zh6 v=true/\rng v.Int):∀ (n i:Nat),l.length<i+n->i<=l.length->zFZ n l (bs (zAC (l.take i))) i=(true,bs (zAC l))
 | 0,i,h,h2=>by omega
 | n+1,i,h,h2=>by
  show (zxR l (bs (zAC (l.take i))) i).ev (zB zxS default n) (λr=>(true,r)) (false,default)=_
  unfold zxR;by_cases hi:i<l.length
  ·have hx:=hv _ (zL hi);have hll:=zXn (l.take i) λv h=>(hv v (List.mem_of_mem_take h)).1
   have htl:(l.take i).length=i:=by rw [List.length_take]; omega
   rw [htl] at hll;have hxl:=zsF hx.1;have c0:decide ((i:Int)>(0:Int))=decide (0<i):=ziv i 0;have c1:decide ((i:Int)<Int.ofNat l.length)=true:=decide_eq_true (by show (i:Int)<(l.length:Int); omega)
   have c2:(decide ((0:Int)<=(i:Int))&&true)=true:=by rw [decide_eq_true (by omega)]; rfl
   have hw:IntKind.i64.wrap ((i:Int)+1)=((i+1:Nat):Int):=zX (by omega)
   rw [Wy.ev_i,Wy.ev_i,c1,c0,cond_true];by_cases h0:i=0
   ·subst h0;rw [decide_eq_false (by omega),cond_false,Wy.ev_i,c2,cond_true,Wy.ev_bn,Int.toNat_natCast,zGX hx.1 hx.2,cond_true,Wy.ev_i,zbJ,zbJ,okN _ _ (by omega),cond_true,Wy.ev_h,hw,zc9]
    have ih:=zX4 l hl hv n (0+1) (by omega) (by omega)
    rw [zd7 hi] at ih;exact ih
   ·rw [decide_eq_true (by omega),cond_true,Wy.ev_i,show ByteArray.mk #[(44:UInt8),(32:UInt8)]=bs [44,32] from rfl,zbJ,zbJ,okN _ _ (by simp only [qg,qf,List.length_nil]; omega),cond_true,Wy.ev_i,c2,cond_true,Wy.ev_bn,Int.toNat_natCast,zGX hx.1 hx.2,cond_true,Wy.ev_i,zc9,zbJ,zbJ,okN _ _ (by simp only [qg,qf,List.length_nil]; omega),cond_true,Wy.ev_h,hw,zc9]
    have ih:=zX4 l hl hv n (i+1) (by omega) (by omega)
    rw [zd7 hi,z82 _ _ (λe=>by rw [e] at htl; simp at htl; omega), <- List.append_assoc] at ih
    exact ih
  ·have c1:decide ((i:Int)<Int.ofNat l.length)=false:=decide_eq_false (by show ¬ (i:Int)<(l.length:Int); omega)
   rw [Wy.ev_i,c1,cond_false,Wy.ev_k,List.take_of_length_le (by omega)]
theorem z5D (l:yG) (hl:l.length<=1000) (hv:∀ v∈l,zh6 v=true/\rng v.Int):zsc l=(true,bs (zAC l)):=by
 unfold zsc zH4;have:=zX4 l hl hv (l.length+(ByteArray.mk #[]).size+Int.toNat (0:Int)+(1:Nat)) 0 (by omega) (by omega)
 rw [Wy.fin_bn,show ByteArray.mk #[]=bs (zAC (l.take 0)) from rfl]
 rw [show ((0:Nat):Int)=(0:Int) from rfl] at this
 rw [show (bs (zAC (l.take 0))).size=(ByteArray.mk #[]).size from rfl,this]
 rfl
theorem z7H {r:RowID} (h1:rng r.Table) (h2:rng r.Seq):zuy r=(true,bs (txR r)):=by
 unfold zuy zKs txR;have l1:=zhd r.Table;have l2:=zhd r.Seq;rw [show ByteArray.mk #[(116:UInt8)]=bs [116] from rfl,show ByteArray.mk #[(46:UInt8)]=bs [46] from rfl]
 simp only [Wy.fin_bn,Wy.fin_i,Wy.fin_k,zA9 h1,zA9 h2,cond_true,zc9,zbJ,qg,qf,List.length_nil];rw [okS _ _ (by omega),okS _ _ (by omega),okS _ _ (by omega)]
 simp
theorem z5S {f:Int} (h0:0<=f) (h3:f<=3):zxj f=(true,bs (fnT f)):=by
 have hc:f=0\/f=1\/f=2\/f=3:=by omega
 rcases hc with rfl | rfl | rfl | rfl <;>rfl
theorem z8J {o:Int} (h0:5<=o) (h3:o<=10):zAx o=(true,bs (opT o)):=by
 have hc:o=5\/o=6\/o=7\/o=8\/o=9\/o=10:=by omega
 rcases hc with rfl | rfl | rfl | rfl | rfl | rfl <;>rfl
end Go.Proofs.YtoknknbmfmddbaaGreatDoor
/- Annotations as the reference prints them: the same texts. -/
set_option maxRecDepth 100000
namespace Go.Proofs.YtoknknbmfmddbaaGreatDoor
open Go Go.Ab
theorem zG7 (s:List UInt8):∀ (l:List (List UInt8)) (x:List UInt8),l≠[]->zbr (l++[x]) s=zbr l s++(s++x)
 | [],x,h=>absurd rfl h
 | [y],x,_=>by simp [zbr]
 | y::z::r,x,_=>by
  have:=zG7 s (z::r) x (by simp)
  simp only [List.cons_append,zbr] at this ⊢;rw [this]; simp [List.append_assoc]
theorem z80 (x:At):txA x≠[]:=by
 rw [z4q]; unfold zcp txR
 (repeat' split) <;>simp
theorem zbcz (f:Fc):txF f≠[]:=by
 unfold txF zA7;split
 ·exact z80 _
 ·simp [z80]
def stF (t:List UInt8) (f:Fc):List UInt8:=(if t=[] then [] else t++[42])++txF f
theorem zbcI (t:List UInt8) (f:Fc):stF t f≠[]:=by unfold stF; simp [zbcz]
theorem z9s (f:Fc) (r:yC) (h:r≠[]):txL (f::r)=txF f++([42]++txL r):=by
 unfold txL;rw [zmv,zmv];cases r with
 | nil=>exact absurd rfl h
 | cons g r=>rfl
theorem zbbI (f:Fc):txL [f]=txF f:=by unfold txL; rw [zmv]; rfl
theorem z4J:∀ (fs:yC) (t:List UInt8),fs.foldl stF t=if fs=[] then t else if t=[] then txL fs else t++42::txL fs
 | [],t=>rfl
 | f::r,t=>by
  rw [List.foldl_cons,z4J r (stF t f),if_neg (zbcI t f),if_neg (List.cons_ne_nil f r)];by_cases hr:r=[]
  ·subst hr;rw [if_pos rfl,zbbI];unfold stF;by_cases ht:t=[]
   ·rw [if_pos ht,if_pos ht]; rfl
   ·rw [if_neg ht,if_neg ht]; simp
  ·rw [if_neg hr,z9s f r hr];unfold stF;by_cases ht:t=[]
   ·rw [if_pos ht,if_pos ht]; simp
   ·rw [if_neg ht,if_neg ht]; simp
def t0T (t:Term):List UInt8:=if t.Cf≠1\/t.Fs=[] then zeN t.Cf else []
theorem zba7 (f u:Nat):zwg (f+1) u≠[]:=by
 unfold zwg;cases Nat.blt u 10 <;>simp
theorem z9P (n:Int):zeN n≠[]:=by
 unfold zeN;cases decide (n<0)
 ·exact zba7 19 _
 ·simp
theorem z9g (t:Term):t.Fs.foldl stF (t0T t)=txT t:=by
 rw [z4J];unfold t0T txT zHv;have e0:(zCL t.Fs=[])↔t.Fs=[]:=by rw [zmv,List.map_eq_nil_iff]
 by_cases hf:t.Fs=[]
 ·rw [if_pos hf,if_pos (e0.2 hf),if_pos (.inr hf)]
 ·rw [if_neg hf,if_neg (λe=>hf (e0.1 e))]
  by_cases hc:t.Cf=1
  ·have e1:¬ (t.Cf≠1\/t.Fs=[]):=by simp [hc,hf]
   rw [if_neg e1,if_pos rfl,if_pos hc]; rfl
  ·rw [if_pos (show t.Cf≠1\/t.Fs=[] from .inl hc),if_neg (z9P _),if_neg hc]; rfl
theorem z9M (t:List UInt8):((bs t).toList==(ByteArray.mk #[]).toList)=decide (t=[]):=by
 rw [zwR];by_cases h:t=[]
 ·subst h; rfl
 ·rw [decide_eq_false h,decide_eq_false λe=>h (z85 (e.trans (show ByteArray.mk #[]=bs [] from rfl)))]
section
variable (gA:At->Bool×ByteArray) (gT:yB->Bool×ByteArray)
theorem r13 (a:yB) (s:ByteArray) (i:Nat) (hi:i<a.length) (hl:(a.getD i default).Fs.length<=1000) (hg:∀ f∈(a.getD i default).Fs,gA f.At=(true,bs (txA f.At))/\(txA f.At).length<=4200000000/\rng f.Exp)
  (t:List UInt8) (ht:t.length<=100) (n:Nat) (hn:(a.getD i default).Fs.length<n):ziM gA n a s (i:Int) (bs t) (0:Int)=(true,(a,s,(i:Int),bs ((a.getD i default).Fs.foldl stF t))):=by
 have key:=z57 (W:=zyS gA) (z:=default) (a.getD i default).Fs (λk t=>(a,s,(i:Int),bs t,(k:Int),())) (λ_ _=>()) stF (λt=>(a,s,(i:Int),bs t)) (λk t=>t.length<=100+k*4200000100)
  (λk t hk hI=>by
   obtain ⟨h1,h2,h3⟩:=hg _ (zL hk);have l1:=zhd ((a.getD i default).Fs.getD k default).Exp;refine ⟨?_,λH K D=> ?_⟩
   ·unfold stF txF zA7;split <;>split <;>simp only [qg,qf,List.length_nil] <;>omega
   ·show (zoQ gA a s i (bs t) k).ev H K D=_;unfold zoQ;rw [show ByteArray.mk #[(94:UInt8)]=bs [94] from rfl,show ByteArray.mk #[(42:UInt8)]=bs [42] from rfl]
    simp only [At.eta,Wy.ev_i,Wy.ev_k,Wy.ev_h,Wy.ev_bn,Wy.ev_d,tT,hi,hk,h1,zA9 h3,z9M,zc9,zbJ,qg,qf,List.length_nil];unfold stF txF zA7;rw [zX (by omega)]
    generalize (a.getD i default).Fs.getD k default=f at *;simp only [zrA];by_cases h0:t=[]
    ·subst h0;simp only [decide_true,Bool.not_true,cond_false,List.length_nil,List.nil_append,if_true];by_cases he:f.Exp=1
     ·rw [okS _ _ (by omega)]
      simp [he]
     ·rw [okS _ _ (by omega),okS _ _ (by omega),okS _ _ (by omega)]
      simp [he]
    ·rw [decide_eq_false h0,if_neg h0];by_cases he:f.Exp=1
     ·rw [okS _ _ (by omega),okS _ _ (by omega)]
      simp [he]
     ·rw [okS _ _ (by omega),okS _ _ (by omega),okS _ _ (by omega),okS _ _ (by omega)]
      simp [he])
  (λt hI H K D=>by
   show (zoQ gA a s i (bs t) (a.getD i default).Fs.length).ev H K D=_;unfold zoQ;simp only [Wy.ev_i,Wy.ev_k,tT,hi,Nat.lt_irrefl]) n t hn (by omega)
 exact key
theorem zbaU (a:yB) (hl:a.length<=1000) (hfs:∀ t∈a,t.Fs.length<=1000) (hlen:∀ t∈a,(txT t).length<=4200000100) (hg:∀ t∈a,rng t.Cf/\∀ f∈t.Fs,gA f.At=(true,bs (txA f.At))/\(txA f.At).length<=4200000000/\rng f.Exp):zwY gA a=(true,bs (txN a)):=by
 unfold zwY zN2;by_cases h0:a=[]
 ·subst h0;have e:txN []=[48]:=by unfold txN; rw [zLW]; rfl
  rw [e]; rfl
 have hne:(Int.ofNat a.length==(0:Int))=false:=by
  rw [beq_eq_false_iff_ne]; intro e;have:(a.length:Int)=0:=e;exact h0 (List.length_eq_zero_iff.1 (by omega))
 have hjl:∀ i,i<=a.length->(zbr ((a.take i).map txT) [32,43,32]).length<=i*4200000200:=λi hi=>by
  refine Nat.le_trans (zs5 (B:=4200000200) _ _ λx hx=> ?_) (by rw [List.length_map,List.length_take]; exact Nat.mul_le_mul (Nat.min_le_left _ _) (Nat.le_refl _))
  obtain ⟨t,ht,rfl⟩:=List.mem_map.1 hx;have:=hlen t (List.mem_of_mem_take ht);simp only [qf,List.length_nil]; omega
 have:=zcE (W:=zBB gA) (z:=default) a.length (λi=>(a,bs (zbr ((a.take i).map txT) [32,43,32]),(i:Int),())) (λ_=>()) (λ_=>true) default (bs (zbr (a.map txT) [32,43,32]))
  (λi hi H K D=>by
   show (zqH gA a (bs (zbr ((a.take i).map txT) [32,43,32])) i).ev H K D=_;have hjl:=hjl i (by omega)
   obtain ⟨hc,hgf⟩:=hg _ (zL hi);have hf:=hfs _ (zL hi);have hsz:=zI0 a i hi;have l1:=zhd (a.getD i default).Cf;have l2:=hlen _ (zL hi);have l13:=λ(s:ByteArray) (n:Nat) (hn:(a.getD i default).Fs.length<n)=>r13 gA a s i hi hf hgf (zeN (a.getD i default).Cf) (by omega) n hn
   have l13e:=λ(s:ByteArray) (n:Nat) (hn:(a.getD i default).Fs.length<n)=>r13 gA a s i hi hf hgf [] (by simp) n hn
   have hfold:=z9g (a.getD i default)
   have esn:zbr ((a.take (i+1)).map txT) [32,43,32]=if i=0 then txT (a.getD i default) else zbr ((a.take i).map txT) [32,43,32]++([32,43,32]++txT (a.getD i default)):=by
    rw [zd7 hi,List.map_append];by_cases hz:i=0
    ·subst hz; rfl
    ·rw [if_neg hz]
     exact zG7 _ _ _ (by
      intro e;have:=congrArg List.length e;rw [List.length_map,List.length_take,List.length_nil] at this;omega)
   have e0:i=0->zbr ((a.take i).map txT) [32,43,32]=[]:=λhz=>by subst hz; rfl
   generalize zbr ((a.take i).map txT) [32,43,32]=S at *
   have hfe:(Int.ofNat (a.getD i default).Fs.length==(0:Int))=decide ((a.getD i default).Fs=[]):=by
    rw [show (Int.ofNat (a.getD i default).Fs.length==(0:Int))=((a.getD i default).Fs.length==0) from zvS _ 0,zXT]
    by_cases e:(a.getD i default).Fs=[]
    ·rw [decide_eq_true e,decide_eq_true (by rw [e]; rfl)]
    ·rw [decide_eq_false e,decide_eq_false λh=>e (List.length_eq_zero_iff.1 h)]
   have hgt:decide ((i:Int)>(0:Int))=decide (0<i):=ziv i 0;have hL':decide ((i:Int)<Int.ofNat a.length)=true:=decide_eq_true (by show (i:Int)<(a.length:Int); omega)
   have h0i:decide ((0:Int)<=(i:Int))=true:=decide_eq_true (by omega)
   unfold zqH;rw [show ByteArray.mk #[(32:UInt8),(43:UInt8),(32:UInt8)]=bs [32,43,32] from rfl,show ByteArray.mk #[]=bs [] from rfl]
   simp only [Wy.ev_i,Wy.ev_k,Wy.ev_h,Wy.ev_bn,Wy.ev_d,hL',h0i,Bool.and_self,cond_true,Int.toNat_natCast,hgt,hfe,zA9 hc,zrA,zc9];rw [esn];have hw:IntKind.i64.wrap ((i:Int)+1)=((i+1:Nat):Int):=zX (by omega)
   unfold t0T at hfold;by_cases hz:i=0
   ·subst hz;rw [if_pos rfl,decide_eq_false (Nat.lt_irrefl 0),cond_false,e0 rfl];by_cases h1:(a.getD 0 default).Cf=1
    ·rw [decide_eq_true h1,Bool.not_true,cond_false];by_cases hf0:(a.getD 0 default).Fs=[]
     ·rw [if_pos (.inr hf0)] at hfold;rw [decide_eq_true hf0,cond_true,l13 _ _ (by simp only [zbJ]; omega),hfold]
      simp only [cond_true,zbJ,zc9,List.nil_append,hw];rw [okS _ _ (by simp only [List.length_nil]; omega)]; rfl
     ·rw [if_neg (λe=>e.elim (λh=>h h1) hf0)] at hfold
      rw [decide_eq_false hf0,cond_false,l13e _ _ (by simp only [zbJ]; omega),hfold]
      simp only [cond_true,zbJ,zc9,List.nil_append,hw];rw [okS _ _ (by simp only [List.length_nil]; omega)]; rfl
    ·rw [if_pos (.inl h1)] at hfold;rw [decide_eq_false h1,Bool.not_false,cond_true,l13 _ _ (by simp only [zbJ]; omega),hfold]
     simp only [cond_true,zbJ,zc9,List.nil_append,hw];rw [okS _ _ (by simp only [List.length_nil]; omega)]; rfl
   ·rw [if_neg hz,decide_eq_true (by omega),cond_true]
    simp only [zbJ];rw [okS _ _ (by simp only [qf,List.length_nil]; omega),cond_true]
    by_cases h1:(a.getD i default).Cf=1
    ·rw [decide_eq_true h1,Bool.not_true,cond_false];by_cases hf0:(a.getD i default).Fs=[]
     ·rw [if_pos (.inr hf0)] at hfold;rw [decide_eq_true hf0,cond_true,l13 _ _ (by omega),hfold]
      simp only [cond_true,zbJ,zc9,hw];rw [okS _ _ (by simp only [qg,qf,List.length_nil]; omega),List.append_assoc]; rfl
     ·rw [if_neg (λe=>e.elim (λh=>h h1) hf0)] at hfold
      rw [decide_eq_false hf0,cond_false,l13e _ _ (by omega),hfold]
      simp only [cond_true,zbJ,zc9,hw];rw [okS _ _ (by simp only [qg,qf,List.length_nil]; omega),List.append_assoc]; rfl
    ·rw [if_pos (.inl h1)] at hfold;rw [decide_eq_false h1,Bool.not_false,cond_true,l13 _ _ (by omega),hfold]
     simp only [cond_true,zbJ,zc9,hw];rw [okS _ _ (by simp only [qg,qf,List.length_nil]; omega),List.append_assoc]; rfl)
  (λH K D=>by
   show (zqH gA a (bs (zbr ((a.take a.length).map txT) [32,43,32])) a.length).ev H K D=_;unfold zqH;simp only [Wy.ev_i,Wy.ev_k,tT,Nat.lt_irrefl,List.take_length]) ((a.length+(ByteArray.mk #[]).size+Int.toNat (0:Int)+(1:Nat))+zd3 a) (by omega)
 rw [show zdR (λ_=>true) a.length 0=true from zdt.2 λ_ _ _=>rfl] at this
 have e:zKi gA ((a.length+(ByteArray.mk #[]).size+Int.toNat (0:Int)+(1:Nat))+zd3 a) a (ByteArray.mk #[]) (0:Int)=(true,bs (zbr (a.map txT) [32,43,32])):=this
 have ex:txN a=zbr (a.map txT) [32,43,32]:=by
  unfold txN zKO;rw [zHR,if_neg (by simpa using h0)]
 rw [Wy.fin_i,hne,cond_false,Wy.fin_bn,e,ex]; rfl
theorem r12 (x:At) (S0:List UInt8) (h0:S0.length<=1000) (hl:x.Items.length<=1024) (hit:∀ w∈x.Items,zh6 w.Value=true/\rng w.Value.Int) (hg:∀ w∈x.Items,gT w.Ann=(true,bs (txN w.Ann))/\(txN w.Ann).length<=4200000000) (n:Nat) (hn:x.Items.length<n):
  zn4 gT n (bs S0) (0:Int) x=(true,(bs (S0++zbr (x.Items.map txI) [59,32]),x)):=by
 have hjl:∀ i,i<=x.Items.length->(zbr ((x.Items.take i).map txI) [59,32]).length<=i*4200001000:=λi hi=>by
  refine Nat.le_trans (zs5 (B:=4200001000) _ _ λy hy=> ?_) (by rw [List.length_map,List.length_take]; exact Nat.mul_le_mul (Nat.min_le_left _ _) (Nat.le_refl _))
  obtain ⟨w,hw,rfl⟩:=List.mem_map.1 hy;have h1:=(hg w (List.mem_of_mem_take hw)).2;have h2:=zsF (hit w (List.mem_of_mem_take hw)).1;simp only [txI,qg,qf,List.length_nil]; omega
 have key:=zcE (W:=zt0 gT) (z:=default) x.Items.length (λi=>((),bs (S0++zbr ((x.Items.take i).map txI) [59,32]),(i:Int),())) (λ_=>(x,())) (λ_=>true) default (bs (S0++zbr (x.Items.map txI) [59,32]),x)
  (λi hi H K D=>by
   show (zjs gT (bs (S0++zbr ((x.Items.take i).map txI) [59,32])) i x).ev H K D=_;have hjl:=hjl i (by omega)
   have hm:=zL hi;obtain ⟨g1,l1⟩:=hg _ hm;have l2:=zsF (hit _ hm).1;have ht:=zGX (hit _ hm).1 (hit _ hm).2
   have esn:zbr ((x.Items.take (i+1)).map txI) [59,32]=if i=0 then txI (x.Items.getD i default) else zbr ((x.Items.take i).map txI) [59,32]++([59,32]++txI (x.Items.getD i default)):=by
    rw [zd7 hi,List.map_append];by_cases hz:i=0
    ·subst hz; rfl
    ·rw [if_neg hz]
     exact zG7 _ _ _ (by
      intro e;have:=congrArg List.length e;rw [List.length_map,List.length_take,List.length_nil] at this;omega)
   have e0:i=0->zbr ((x.Items.take i).map txI) [59,32]=[]:=λhz=>by subst hz; rfl
   have hgt:decide ((i:Int)>(0:Int))=decide (0<i):=ziv i 0;have hw:IntKind.i64.wrap ((i:Int)+1)=((i+1:Nat):Int):=zX (by omega)
   rw [esn];generalize zbr ((x.Items.take i).map txI) [59,32]=S at *;unfold zjs;rw [show ByteArray.mk #[(59:UInt8),(32:UInt8)]=bs [59,32] from rfl,show ByteArray.mk #[(58:UInt8),(32:UInt8)]=bs [58,32] from rfl]
   simp only [Wy.ev_i,Wy.ev_k,Wy.ev_h,Wy.ev_bn,Wy.ev_d,tT,hi,hgt,ht,g1,hw,zc9,zbJ,qg,qf,List.length_nil];unfold txI;generalize x.Items.getD i default=w at *;by_cases hz:i=0
   ·subst hz;rw [if_pos rfl,decide_eq_false (Nat.lt_irrefl 0),e0 rfl];simp only [cond_false,List.length_nil,List.append_nil];rw [okS _ _ (by omega),okS _ _ (by omega),okS _ _ (by omega)]
    simp only [cond_true,List.append_assoc]
   ·rw [if_neg hz,decide_eq_true (by omega)]
    simp only [cond_true];rw [okS _ _ (by omega),okS _ _ (by omega),okS _ _ (by omega),okS _ _ (by omega)]
    simp only [cond_true,List.append_assoc])
  (λH K D=>by
   show (zjs gT (bs (S0++zbr ((x.Items.take x.Items.length).map txI) [59,32])) x.Items.length x).ev H K D=_;unfold zjs;simp only [Wy.ev_i,Wy.ev_k,tT,Nat.lt_irrefl,List.take_length]) n hn
 rw [show zdR (λ_=>true) x.Items.length 0=true from zdt.2 λ_ _ _=>rfl] at key
 have e:zn4 gT n (bs (S0++zbr ((x.Items.take 0).map txI) [59,32])) (0:Int) x=_:=key;rw [show zbr ((x.Items.take 0).map txI) [59,32]=[] from rfl,List.append_nil] at e
 exact e
theorem zbbF {V:yB->Bool} (x:At) (hx:zd0 V x=true) (hw:zfP x) (hi:x.Items.length<=1024) (hg:∀ a,(a∈x.Ag\/∃ w∈x.Items,a=w.Ann)->gT a=(true,bs (txN a))/\(txN a).length<=4200000000):zoH gT x=(true,bs (txA x)):=by
 have W:=zqv hw;unfold zoH zEg;rw [z4q];cases zdJ.1 hx with
 | var r h=>
  have hr:=W.2.2.2.2.1;simp only [Wy.fin_bn,Wy.fin_i,Wy.fin_k,z7H (zgJ hr.1) (zgJ hr.2)];simp [zcp]
 | mon a b ha hb _ _ _=>
  obtain ⟨g1,l1⟩:=hg a (.inl (by simp))
  obtain ⟨g2,l2⟩:=hg b (.inl (by simp))
  rw [zh3];simp only [List.map,zcp,List.getD_cons_zero,List.getD_cons_succ,show ¬ (1:Int)=0 by decide,if_false,if_true]
  rw [show ByteArray.mk #[(109:UInt8),(111:UInt8),(110:UInt8),(117:UInt8),(115:UInt8),(91:UInt8)]=bs [109,111,110,117,115,91] from rfl,show ByteArray.mk #[(44:UInt8),(32:UInt8)]=bs [44,32] from rfl,show ByteArray.mk #[(93:UInt8)]=bs [93] from rfl]
  simp only [cond_true,cond_false,Wy.fin_i,Wy.fin_bn,Wy.fin_k,show ((1:Int)==0)=false from rfl,show ((1:Int)==1)=true from rfl,show (decide ((0:Int)<=0)&&decide ((0:Int)<Int.ofNat [a,b].length))=true from rfl,show (decide ((0:Int)<=1)&&decide ((1:Int)<Int.ofNat [a,b].length))=true from rfl,show [a,b].getD (Int.toNat 0) default=a from rfl,show [a,b].getD (Int.toNat 1) default=b from rfl,g1,g2,zc9,zbJ,List.length_append,List.length_cons,List.length_nil]
  rw [okS _ _ (by omega),okS _ _ (by omega),okS _ _ (by omega),okS _ _ (by omega)]
  simp
 | del a ha _ _ _=>
  obtain ⟨g1,l1⟩:=hg a (.inl (by simp))
  rw [zh3];simp only [List.map,zcp,List.getD_cons_zero,show ¬ (2:Int)=0 by decide,show ¬ (2:Int)=1 by decide,if_false,if_true]
  rw [show ByteArray.mk #[(100:UInt8),(101:UInt8),(108:UInt8),(116:UInt8),(97:UInt8),(91:UInt8)]=bs [100,101,108,116,97,91] from rfl,show ByteArray.mk #[(93:UInt8)]=bs [93] from rfl]
  simp only [cond_true,cond_false,Wy.fin_i,Wy.fin_bn,Wy.fin_k,show ((2:Int)==0)=false from rfl,show ((2:Int)==1)=false from rfl,show ((2:Int)==2)=true from rfl,show (decide ((0:Int)<=0)&&decide ((0:Int)<Int.ofNat [a].length))=true from rfl,show [a].getD (Int.toNat 0) default=a from rfl,g1,zc9,zbJ,List.length_append,List.length_cons,List.length_nil]
  rw [okS _ _ (by omega),okS _ _ (by omega)]
  simp
 | abs a ha _ _=>
  obtain ⟨g1,l1⟩:=hg a (.inl (by simp))
  rw [zh3];simp only [List.map,zcp,List.getD_cons_zero,show ¬ (3:Int)=0 by decide,show ¬ (3:Int)=1 by decide,show ¬ (3:Int)=2 by decide,if_false,if_true]
  rw [show ByteArray.mk #[(97:UInt8),(98:UInt8),(115:UInt8),(101:UInt8),(110:UInt8),(116:UInt8),(91:UInt8)]=bs [97,98,115,101,110,116,91] from rfl,show ByteArray.mk #[(93:UInt8)]=bs [93] from rfl]
  simp only [cond_true,cond_false,Wy.fin_i,Wy.fin_bn,Wy.fin_k,show ((3:Int)==0)=false from rfl,show ((3:Int)==1)=false from rfl,show ((3:Int)==2)=false from rfl,show ((3:Int)==3)=true from rfl,show (decide ((0:Int)<=0)&&decide ((0:Int)<Int.ofNat [a].length))=true from rfl,show [a].getD (Int.toNat 0) default=a from rfl,g1,zc9,zbJ,List.length_append,List.length_cons,List.length_nil]
  rw [okS _ _ (by omega),okS _ _ (by omega)]
  simp
 | tst f l o b hl hv hs hf=>
  obtain ⟨⟨f0,f3,o5,o10⟩,hb,hit⟩:=zqA hf;have hwl:=zjo W.2.1.1;have hwb:rng b.Int:=zgJ W.2.2.1.2.1;simp only at hi
  have hlen:(zbr (l.map txI) [59,32]).length<=5000000000000:=by
   refine Nat.le_trans (zs5 (B:=4200001000) (l.map txI) [59,32] λy hy=> ?_) (by
    rw [List.length_map]; have:=Nat.mul_le_mul hi (Nat.le_refl 4200001000); omega)
   obtain ⟨w,hw,rfl⟩:=List.mem_map.1 hy;have h1:=(hg _ (.inr ⟨w,hw,rfl⟩)).2;have h2:=zsF (hit w hw).1;simp only [txI,qg,qf,List.length_nil]; omega
  have l3:=z1v f;have l4:=z07 o;have l5:=zsF hb;have e12:∀ n,l.length<n->zn4 gT n (bs ([116,101,115,116,91]++fnT f++[123])) (0:Int) (⟨4,⟨0,0⟩,[],f,l,o,b⟩:At)=_:=λn hn=>r12 gT (⟨4,⟨0,0⟩,[],f,l,o,b⟩:At) ([116,101,115,116,91]++fnT f++[123]) (by simp only [qg,qf,List.length_nil]; omega) hi (λw hw=>⟨(hit w hw).1,zgJ (hwl w hw).1.2.1⟩) (λw hw=>hg _ (.inr ⟨w,hw,rfl⟩)) n hn
  rw [zDn];simp only [zcp,show ¬ (4:Int)=0 by decide,show ¬ (4:Int)=1 by decide,show ¬ (4:Int)=2 by decide,show ¬ (4:Int)=3 by decide,if_false]
  rw [show ByteArray.mk #[(116:UInt8),(101:UInt8),(115:UInt8),(116:UInt8),(91:UInt8)]=bs [116,101,115,116,91] from rfl,show ByteArray.mk #[(123:UInt8)]=bs [123] from rfl,show ByteArray.mk #[(125:UInt8),(32:UInt8)]=bs [125,32] from rfl,show ByteArray.mk #[(32:UInt8)]=bs [32] from rfl,show ByteArray.mk #[(93:UInt8)]=bs [93] from rfl]
  simp only [Wy.fin_i,Wy.fin_bn,show ((4:Int)==0)=false from rfl,show ((4:Int)==1)=false from rfl,show ((4:Int)==2)=false from rfl,show ((4:Int)==3)=false from rfl,cond_false,z5S f0 f3,cond_true,zbJ,zc9]
  rw [okS _ _ (by simp only [qf,List.length_nil]; omega),okS _ _ (by simp only [qg,qf,List.length_nil]; omega),cond_true,cond_true,e12 _ (by simp only [qg,qf,List.length_nil]; omega)]
  simp only [Wy.fin_i,Wy.fin_k,Wy.fin_bn,z8J o5 o10,zGX hb hwb,cond_true,zc9,zbJ,qg,qf,List.length_nil];rw [okS _ _ (by omega),okS _ _ (by omega),okS _ _ (by omega),okS _ _ (by omega),okS _ _ (by omega)]
  simp
end
theorem z2o:∀ n,
  (∀ m a,zbU m a=true->zfd a->2*m<=n->zwv n a=(true,bs (txN a)))/\
  (∀ m x,zd0 (zbU m) x=true->zfP x->x.Items.length<=1024->2*m+1<=n->ztV n x=(true,bs (txA x)))
 | 0=>by
  refine ⟨?_, ?_⟩
  ·intro m a h _ hm; have:m=0:=by omega
   subst this; cases h
  ·intros; omega
 | n+1=>by
  obtain ⟨h1,h2⟩:=z2o n;refine ⟨?_, ?_⟩
  ·intro m a h hw hm;cases m with
   | zero=>cases h
   | succ m=>
    have hl:=ztt (zAa h)
    have hsum:∀ t∈a,t.Fs.length+zbw t.Fs<=zP a:=by
     intro t ht;clear hw hm h hl;induction a with
     | nil=>cases ht
     | cons b r ih=>
      rw [zhh];rcases qd.1 ht with rfl | ht
      ·omega
      ·have:=ih ht; omega
    have hsz:zP a<=4096:=(zen h).2.1
    have hfl:∀ t∈a,(txL t.Fs).length<=4200000000:=λt ht=>by
     refine Nat.le_trans (zXF λf hf=>(zzV m).2 _ (ziB (zlr h ht).2 hf).2) ?_
     have:=hsum t ht; omega
    have hal:∀ t∈a,∀ f∈t.Fs,(txA f.At).length<=4200000000:=λt ht f hf=>by
     have h5:=(zzV m).2 _ (ziB (zlr h ht).2 hf).2;have h6:=zUJ ht hf;rw [zgy] at h5; omega
    rw [z0z];refine zbaU _ a (by omega) (λt ht=>by have:=(hl.2.2.2 t ht).1; omega) (λt ht=> ?_) λt ht=> ?_
    ·have h6:=zhd t.Cf;have h7:=hfl t ht;have e:(zbr (zCL t.Fs) [42]).length=(txL t.Fs).length:=rfl;unfold txT zHv;split
     ·omega
     ·split
      ·omega
      ·simp only [qg,qf]; omega
    ·obtain ⟨⟨c1,c2⟩,hok⟩:=zlr h ht;obtain ⟨q1,q2⟩:=hl.2.2.2 t ht;have hwt:=zmL (ztX (zqw hw t ht)).2.1;refine ⟨by constructor <;>omega,λf hf=> ?_⟩
     obtain ⟨⟨e1,_⟩,hv⟩:=ziB hok hf;exact ⟨h2 m f.At hv (zpe (hwt f hf)).1 (q2 f hf).2 (by omega),hal t ht f hf,by have:=(q2 f hf).1; constructor <;>omega⟩
  ·intro m x h hw hi hm;rw [zQ7];have W:=zqv hw;refine zbbF _ x h hw hi λa ha=> ?_
   have hv:zbU m a=true/\zfd a:=by
    rcases ha with ha | ⟨w,hw',rfl⟩
    ·refine ⟨?_,(zjM W.1.1 a ha).1⟩;cases zdJ.1 h with
     | var r h=>cases ha
     | mon b c hb hc _ _ _=>
      simp only [qd,List.not_mem_nil,or_false] at ha;rcases ha with rfl | rfl
      ·exact hb
      ·exact hc
     | del b hb _ _ _=>rw [qh] at ha; subst ha; exact hb
     | abs b hb _ _=>rw [qh] at ha; subst ha; exact hb
     | tst f l o b hl hv hs hf=>cases ha
    ·refine ⟨?_,(zjo W.2.1.1 w hw').2.1⟩;cases zdJ.1 h with
     | var r h=>cases hw'
     | mon b c hb hc _ _ _=>cases hw'
     | del b hb _ _ _=>cases hw'
     | abs b hb _ _=>cases hw'
     | tst f l o b hl hv hs hf=>exact (hv w hw').1
   refine ⟨h1 m a hv.1 hv.2 (by omega), ?_⟩
   have:=(zzV m).1 a hv.1;have:=(zen hv.1).2.1;omega
end Go.Proofs.YtoknknbmfmddbaaGreatDoor
namespace Go.Proofs.YtoknknbmfmddbaaGreatDoor
open Go Go.Ab
section
variable {τ:Type} [Inhabited τ]
end
structure CW (U:Row->Prop):Prop where
 ends : ∀ x y, U x -> U y -> ∃ z, zcO x y = (true, z)
def ltW (x y:Row):Prop:=(zcO x y).2<0
theorem CW.eq {U:Row->Prop} (h:CW U) {x y:Row} (hx:U x) (hy:U y):zcO x y=(true,(zcO x y).2):=by
 obtain ⟨z,e⟩:=h.ends x y hx hy;rw [e]
structure OW (U:Row->Prop):Prop extends CW U where
 asym:∀ x y,U x->U y->ltW x y->¬ ltW y x
 ntr:∀ x y z,U x->U y->U z->¬ ltW x y->¬ ltW y z->¬ ltW x z
def clW (v y:Row):Bool:=decide (¬ (zcO v y).2<0)&&decide (¬ (zcO y v).2<0)
theorem z6t {v y:Row}:clW v y=true↔¬ ltW v y/\¬ ltW y v:=by unfold clW ltW; simp
structure PS (U:Row->Prop) (Z L:yF):Prop where
 perm:Z.Perm L
 stab:∀ v,U v->Z.filter (clW v)=L.filter (clW v)
theorem PS.refl {U:Row->Prop} (L:yF):PS U L L:=⟨.refl _,λ_ _=>rfl⟩
theorem PS.trans {U:Row->Prop} {A B C:yF} (h:PS U A B) (k:PS U B C):PS U A C:=⟨h.perm.trans k.perm,λv hv=>(h.stab v hv).trans (k.stab v hv)⟩
theorem PS.append {U:Row->Prop} {A B C D:yF} (h:PS U A B) (k:PS U C D):PS U (A++C) (B++D):=⟨h.perm.append k.perm,λv hv=>by rw [List.filter_append,List.filter_append,h.stab v hv,k.stab v hv]⟩
theorem PS.swap {U:Row->Prop} (h:OW U) {A B:yF} (hA:∀ y∈A,U y) (hB:∀ y∈B,U y) (hl:∀ a∈A,∀ b∈B,ltW a b\/ltW b a):PS U (A++B) (B++A):=⟨List.perm_append_comm,λv hv=>by
 rw [List.filter_append,List.filter_append];cases ea:A.filter (clW v) with
 | nil=>simp
 | cons a A'=>
  cases eb:B.filter (clW v) with
  | nil=>simp
  | cons b B'=>
   exfalso;obtain ⟨a1,a2⟩:=List.mem_filter.1 (show a∈A.filter (clW v) by rw [ea]; simp)
   obtain ⟨b1,b2⟩:=List.mem_filter.1 (show b∈B.filter (clW v) by rw [eb]; simp)
   obtain ⟨a3,a4⟩:=z6t.1 a2;obtain ⟨b3,b4⟩:=z6t.1 b2;rcases hl a a1 b b1 with h1 | h1
   ·exact h.ntr a v b (hA a a1) hv (hB b b1) a4 b3 h1
   ·exact h.ntr b v a (hB b b1) hv (hA a a1) b4 a3 h1⟩
end Go.Proofs.YtoknknbmfmddbaaGreatDoor
end
