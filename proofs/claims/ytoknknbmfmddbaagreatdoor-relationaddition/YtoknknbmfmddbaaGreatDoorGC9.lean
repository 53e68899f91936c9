/- Texts of this claim, joined (the program, its functions in plain words, and what they compute). -/
import Derived.Test.YtoknknbmfmddbaaGreatDoorGC8
set_option autoImplicit false
set_option linter.unusedVariables false
set_option linter.unusedSectionVars false
set_option linter.unusedSimpArgs false
set_option maxRecDepth 1000000
set_option maxHeartbeats 0
/- The texts of annotations: what the program's texts are. -/
noncomputable section
namespace Go.Proofs.YtoknknbmfmddbaaGreatDoor
open Go Go.Ab
def txV (v:Value):List UInt8:=if v.Kind=0 then zjb v.Int else if v.Kind=1 then 39::(v.Text.data.toList.flatMap esc++[39]) else if v.Int=1 then [84,82,85,69] else [70,65,76,83,69]
def txR (r:RowID):List UInt8:=116::(zjb r.Table++46::zjb r.Seq)
def fnT (f:Int):List UInt8:=if f=0 then [67,79,85,78,84] else if f=1 then [83,85,77] else if f=2 then [77,73,78] else [77,65,88]
def opT (o:Int):List UInt8:=if o=5 then [61] else if o=6 then [60,62] else if o=7 then [60] else if o=8 then [60,61] else if o=9 then [62] else [62,61]
def zPt (ts:List (List UInt8)):List UInt8:=if ts=[] then [48] else zeY ts [32,43,32]
def zUW (c:Int) (fs:List (List UInt8)):List UInt8:=if fs=[] then zjb c else if c=1 then zeY fs [42] else zjb c++42::zeY fs [42]
def zLy (x:List UInt8) (e:Int):List UInt8:=if e=1 then x else x++94::zjb e
def zds (k:Int) (r:RowID) (xs:List (List UInt8)) (f:Int) (is:List (List UInt8)) (o:Int) (b:Value):List UInt8:=
 if k=0 then txR r
 else if k=1 then [109,111,110,117,115,91]++(xs.getD 0 []++([44,32]++(xs.getD 1 []++[93])))
 else if k=2 then [100,101,108,116,97,91]++(xs.getD 0 []++[93])
 else if k=3 then [97,98,115,101,110,116,91]++(xs.getD 0 []++[93])
 else [116,101,115,116,91]++(fnT f++([123]++(zeY is [59,32]++([125,32]++(opT o++([32]++(txV b++[93])))))))
mutual
def txA:At->List UInt8
 | ⟨k,r,a,f,i,o,b⟩=>zds k r (z0a a) f (z0u i) o b
def zKh:yC->List (List UInt8)
 | []=>[]
 | ⟨x,e⟩::l=>zLy (txA x) e::zKh l
def zPp:yB->List (List UInt8)
 | []=>[]
 | ⟨c,fs⟩::l=>zUW c (zKh fs)::zPp l
def z0a:yA->List (List UInt8)
 | []=>[]
 | a::l=>zPt (zPp a)::z0a l
def z0u:yD->List (List UInt8)
 | []=>[]
 | ⟨v,a⟩::l=>(txV v++([58,32]++zPt (zPp a)))::z0u l
end
def txF (f:Fc):List UInt8:=zLy (txA f.At) f.Exp
def txT (t:Term):List UInt8:=zUW t.Cf (zKh t.Fs)
def txN (a:yB):List UInt8:=zPt (zPp a)
def txI (w:Wd):List UInt8:=txV w.Value++([58,32]++txN w.Ann)
theorem zyP:∀ l,zKh l=l.map txF
 | []=>by rw [zKh]; rfl
 | x::r=>by rw [zKh,zyP r]; rfl
theorem zPG:∀ l,zPp l=l.map txT
 | []=>by rw [zPp]; rfl
 | x::r=>by rw [zPp,zPG r]; rfl
theorem zmz:∀ l,z0a l=l.map txN
 | []=>by rw [z0a]; rfl
 | x::r=>by rw [z0a,zmz r]; rfl
theorem zJx:∀ l,z0u l=l.map txI
 | []=>by rw [z0u]; rfl
 | x::r=>by rw [z0u,zJx r]; rfl
theorem zbc8 (x:At):txA x=zds x.Kind x.Row (z0a x.Ag) x.Func (z0u x.Items) x.Op x.Bd:=by cases x; rw [txA]
def txL (l:yC):List UInt8:=zeY (zKh l) [42]
theorem zOP {v:Value} (h:zsB v=true):(txV v).length<=512:=by
 have ht:=zvx h;unfold txV;have h1:=zqh v.Int;have h2:=z0A v.Text.data.toList;have h3:v.Text.data.toList.length=v.Text.size:=by rw [Array.length_toList]; rfl
 split
 ·omega
 ·split
  ·simp only [qf,qg,List.length_nil]; omega
  ·split <;>simp
theorem zbaO (r:RowID):(txR r).length<=44:=by
 have h1:=zqh r.Table;have h2:=zqh r.Seq;simp only [txR,qf,qg]; omega
theorem z5x (f:Int):(fnT f).length<=5:=by unfold fnT; (repeat' split) <;>simp
theorem z5O (f:Int):(opT f).length<=2:=by unfold opT; (repeat' split) <;>simp
theorem zQR {α:Type} (t:α->List UInt8) (m:α->Nat) (s:List UInt8):∀ l:List α,(∀ x∈l,(t x).length+s.length<=m x)->(zeY (l.map t) s).length<=(l.map m).sum
 | [],_=>by simp [zeY]
 | [x],h=>by
  have:=h x (by simp)
  simp only [List.map,zeY,List.sum_cons,List.sum_nil]; omega
 | x::y::r,h=>by
  have h1:=h x (by simp)
  have h2:=zQR t m s (y::r) λz hz=>h z (List.mem_cons_of_mem _ hz)
  simp only [List.map,zeY,qg,List.sum_cons] at h2 ⊢;omega
theorem zWw:∀ l:yC,(l.map λf=>1000+1000*zfq f.At).sum=1000*(l.length+zbz l)
 | []=>by rw [zjf]; rfl
 | f::r=>by rw [List.map_cons,List.sum_cons,zWw r,zc5,qf]; omega
theorem z1n:∀ l:yB,(l.map λt=>1000+1000*(t.Fs.length+zbz t.Fs)).sum=1000*zM l
 | []=>by rw [zv6]; rfl
 | f::r=>by rw [List.map_cons,List.sum_cons,z1n r,zgb]; omega
theorem z1f:∀ l:yD,(l.map λt=>1000+1000*zM t.Ann).sum=1000*zc9 l
 | []=>by rw [zfV]; rfl
 | f::r=>by rw [List.map_cons,List.sum_cons,z1f r,ziR]; omega
theorem zbbx {x:At} {e:Int} (h:(txA x).length<=700+1000*zfq x):(zLy (txA x) e).length+1<=1000+1000*zfq x:=by
 have:=zqh e;unfold zLy;split
 ·omega
 ·simp only [qg,qf]; omega
theorem z4t {l:yC} (h:∀ f∈l,(txA f.At).length<=700+1000*zfq f.At):(txL l).length<=1000*(l.length+zbz l):=by
 unfold txL;rw [zyP, <- zWw];exact zQR txF (λf=>1000+1000*zfq f.At) [42] l λf hf=>zbbx (h f hf)
theorem zVk:∀ (m:Nat),(∀ a,zbr m a=true->(txN a).length<=1+1000*zM a)/\(∀ x,zef (zbr m) x=true->(txA x).length<=700+1000*zfq x)
 | m=>by
  have hA:∀ (V:yB->Bool),(∀ a,V a=true->(txN a).length<=1+1000*zM a)->∀ x,zef V x=true->(txA x).length<=700+1000*zfq x:=by
   intro V hV x hx;rw [zhP];cases zdz.1 hx with
   | var r h=>
    rw [txA]; have:=zbaO r;simp only [zds,if_true]; omega
   | mon a b ha hb _ _ _=>
    have h1:=hV a ha; have h2:=hV b hb;rw [txA,zmz];simp only [zds,zfe,zhg,zfV,List.map,List.getD_cons_zero,List.getD_cons_succ,qg,qf,List.length_nil];simp only [show ¬ (1:Int)=0 by decide,if_false,if_true,qg,qf,List.length_nil]
    omega
   | del a ha _ _ _=>
    have h1:=hV a ha;rw [txA,zmz];simp only [zds,zfe,zhg,zfV,List.map,List.getD_cons_zero];simp only [show ¬ (2:Int)=0 by decide,show ¬ (2:Int)=1 by decide,if_false,if_true,qg,qf,List.length_nil]
    omega
   | abs a ha _ _=>
    have h1:=hV a ha;rw [txA,zmz];simp only [zds,zfe,zhg,zfV,List.map,List.getD_cons_zero];simp only [show ¬ (3:Int)=0 by decide,show ¬ (3:Int)=1 by decide,show ¬ (3:Int)=2 by decide,if_false,if_true,qg,qf,List.length_nil]
    omega
   | tst f l o b hl hi hs hf=>
    obtain ⟨_,hb,hit⟩:=ztC hf;have h1:=z5x f; have h2:=z5O o; have h3:=zOP hb
    have h4:(zeY (l.map txI) [59,32]).length<=1000*zc9 l:=by
     rw [<- z1f];refine zQR txI (λw=>1000+1000*zM w.Ann) [59,32] l λw hw=> ?_
     have h5:=hV _ (hi w hw).1; have h6:=zOP (hit w hw).1;simp only [txI,qg,qf,List.length_nil]; omega
    rw [txA,zJx];simp only [zds,zhg];simp only [show ¬ (4:Int)=0 by decide,show ¬ (4:Int)=1 by decide,show ¬ (4:Int)=2 by decide,show ¬ (4:Int)=3 by decide,if_false,qg,qf,List.length_nil]
    omega
  have hN:∀ a,zbr m a=true->(txN a).length<=1+1000*zM a:=by
   induction m with
   | zero=>intro a h; cases h
   | succ m ih=>
    intro a h;unfold txN zPt;split
    ·simp
    ·rw [zPG, <- z1n];refine Nat.le_trans (zQR txT (λt=>1000+1000*(t.Fs.length+zbz t.Fs)) [32,43,32] a λt ht=> ?_) (Nat.le_add_left _ _)
     have hok:=(zvt h ht).2;have h5:=z4t (l:=t.Fs) λf hf=>hA _ ih _ (zpH hok hf).2
     have h6:=zqh t.Cf;have e:(zeY (zKh t.Fs) [42]).length=(txL t.Fs).length:=rfl;unfold txT zUW;simp only [qf,List.length_nil];split
     ·omega
     ·split
      ·omega
      ·simp only [qg,qf]; omega
  exact ⟨hN,hA _ hN⟩
theorem zmI {n:Int} (h:wf3 n): -9223372036854775808<=n/\n<=9223372036854775807:=by
 have h:(Lit.int .i64 n).wf=true:=h;have:IntKind.i64.min<=n/\n<=IntKind.i64.max:=by simpa [Lit.wf] using h
 exact ⟨this.1,this.2⟩
def rng (n:Int):Prop:= -9223372036854775808<=n/\n<=9223372036854775807
instance (n:Int):Decidable (rng n):=by unfold rng; infer_instance
theorem zW4 {n:Int} (h:rng n):strconv_Itoa n=(true,bs (zjb n)):=by
 unfold strconv_Itoa zP2 zLW;rw [decide_eq_true h.1,decide_eq_true h.2]; rfl
theorem z5V {n:Int} (h:rng n):zjJ n 10=(true,bs (zjb n)):=by
 unfold zjJ zvH zLW;rw [decide_eq_true h.1,decide_eq_true h.2]; rfl
theorem okS (n m:Nat) (h:n+m<=9223372036854775807):decide (n+m<=9223372036854775807)=true:=decide_eq_true h
theorem z9g {r:RowID} (h:zzu r=true) (h1:rng r.Table) (h2:rng r.Seq):zwZ r=(true,bs (txR r)):=by
 unfold zwZ zL7 txR;have l1:=zqh r.Table;have l2:=zqh r.Seq;rw [show ByteArray.mk #[(116:UInt8)]=bs [116] from rfl,show ByteArray.mk #[(46:UInt8)]=bs [46] from rfl]
 simp only [Wy.fin_bn,Wy.fin_i,Wy.fin_k,zCT,h,zW4 h1,zW4 h2,cond_true,cond_false,Bool.not_true,zDn,zu2,qg,qf,List.length_nil];rw [okS _ _ (by omega),okS _ _ (by omega),okS _ _ (by omega)]
 simp
theorem z4x {v:Value} (h:zsB v=true) (hr:rng v.Int):zrq v=(true,bs (txV v)):=by
 unfold zrq zOo txV strings_ReplaceAll;have ht:=zvx h;rw [show ByteArray.mk #[(39:UInt8)]=bs [39] from rfl,show ByteArray.mk #[(39:UInt8),(39:UInt8)]=bs [39,39] from rfl]
 simp only [Wy.fin_bn,Wy.fin_i,Wy.fin_k,zzA,h,z5V hr,zZx _ ht,cond_true,cond_false,Bool.not_true,zDn,zu2,qg,qf,List.length_nil];have h2:=z0A v.Text.data.toList;have h3:v.Text.data.toList.length=v.Text.size:=by rw [Array.length_toList]; rfl
 rw [okS _ _ (by omega),okS _ _ (by omega)]
 by_cases k0:v.Kind=0
 ·simp [k0]
 by_cases k1:v.Kind=1
 ·simp [k1]
 simp only [zhD,k0,k1,decide_false,cond_false,if_false];by_cases i1:v.Int=1
 ·simp only [i1,decide_true,cond_true,if_true]; rfl
 ·simp only [i1,decide_false,cond_false,if_false]; rfl
theorem zbbG {f:Int} (h0:0<=f) (h3:f<=3):(decide ((0:Int)<=f)&&decide (f<Int.ofNat zb2.snd.length))=true/\zb2.snd.getD f.toNat default=bs (fnT f):=by
 have hc:f=0\/f=1\/f=2\/f=3:=by omega
 rcases hc with rfl | rfl | rfl | rfl <;>exact ⟨rfl,rfl⟩
theorem zbaD {o:Int} (h0:5<=o) (h3:o<=10):(decide ((0:Int)<=IntKind.i64.wrap (o - 5))&&decide (IntKind.i64.wrap (o - 5)<Int.ofNat zdJ.snd.length))=true/\zdJ.snd.getD (IntKind.i64.wrap (o - 5)).toNat default=bs (opT o):=by
 have hc:o=5\/o=6\/o=7\/o=8\/o=9\/o=10:=by omega
 rcases hc with rfl | rfl | rfl | rfl | rfl | rfl <;>exact ⟨rfl,rfl⟩
theorem zWF {m:Nat} {x:At} (h:zef (zbr m) x=true) (hi:x.Items.length<=1024):zfq x<=4195328:=by
 rw [zhP];cases zdz.1 h with
 | var r h=>rw [zhg,zfV]; omega
 | mon a b ha hb _ _ _=>
  have h1:=(zfk ha).2.1; have h2:=(zfk hb).2.1;simp only [zfe,zhg,zfV]; omega
 | del a ha _ _ _=>
  have h1:=(zfk ha).2.1;simp only [zfe,zhg,zfV]; omega
 | abs a ha _ _=>
  have h1:=(zfk ha).2.1;simp only [zfe,zhg,zfV]; omega
 | tst f l o b hl hv hs hf=>
  have h1:∀ l:yD,(∀ w∈l,zM w.Ann<=4096)->zc9 l<=l.length*4097:=λl=>by
   induction l with
   | nil=>intro _; rw [zfV]; omega
   | cons w r ih=>
    intro h;have:=h w (by simp)
    have:=ih λw hw=>h w (by simp [hw])
    rw [ziR,qf,Nat.add_mul]; omega
  have:=h1 l λw hw=>(zfk (hv w hw).1).2.1
  have:=Nat.mul_le_mul hi (Nat.le_refl 4097);simp only [zhg] at this ⊢; omega
section
variable (gA:At->Bool×ByteArray) (gF:yC->Bool×ByteArray) (gT:yB->Bool×ByteArray)
theorem zbcw (l:yC) (hl:l.length<=1000) (hg:∀ f∈l,gA f.At=(true,bs (txA f.At))/\(txA f.At).length<=4200000000/\rng f.Exp):zgM gA l=(true,bs (txL l)):=by
 have hreach:zG=70368744177664:=rfl;unfold zgM zu0
 have:=zcA (W:=zlX gA) (z:=default) l.length (λi=>((),l,(l.length:Int),(i:Int),())) (λi=>((l.take i).map λf=>bs (txF f),())) (λ_=>true) default (l.map λf=>bs (txF f))
  (λi hi H K D=>by
   show (zfD gA l l.length i ((l.take i).map λf=>bs (txF f))).ev H K D=_
   unfold zfD;obtain ⟨h1,h2,h3⟩:=hg _ (zl hi);have l1:=zqh (l.getD i default).Exp;rw [show ByteArray.mk #[(94:UInt8)]=bs [94] from rfl]
   simp only [At.eta,Wy.ev_i,Wy.ev_k,Wy.ev_h,Wy.ev_bn,Wy.ev_d,tT,hi,h1,zW4 h3,zDn,zu2,qg,qf,List.length_nil];rw [okS _ _ (by omega),okS _ _ (by omega),zB (by omega),zha hi,List.map_append]
   have hb:decide ((((l.take i).map λf=>bs (txF f)).length+1)*16<=zG)=true:=by simp only [qe,List.length_map,List.length_take]; omega
   generalize ((l.take i).map λf=>bs (txF f))=out at hb ⊢
   have hb':decide ((out.length+(0+1))*16<=zG)=true:=hb;simp only [hb,hb',cond_true,List.map_cons,List.map_nil,txF,zLy,zsD];by_cases he:(l.getD i default).Exp=1
   ·simp only [he,decide_true,Bool.not_true,cond_false,if_true]
   ·simp only [he,decide_false,Bool.not_false,cond_true,if_false,List.singleton_append])
  (λH K D=>by
   show (zfD gA l l.length l.length ((l.take l.length).map λf=>bs (txF f))).ev H K D=_
   unfold zfD;simp only [Wy.ev_i,Wy.ev_k,tT,Nat.lt_irrefl,List.take_length]) (l.length+(Int.ofNat l.length).toNat +Int.toNat (0:Int)+(0:Nat)+(1:Nat)) (by omega)
 rw [show zeb (λ_=>true) l.length 0=true from zdB.2 λ_ _ _=>rfl] at this
 have e:zt8 gA (l.length+(Int.ofNat l.length).toNat +Int.toNat (0:Int)+(0:Nat)+(1:Nat)) l (Int.ofNat l.length) (0:Int) []=(true,(l.map txF).map bs):=by rw [List.map_map]; exact this
 have hlen:(zeY (l.map txF) [42]).length<=140737488355328:=by
  refine Nat.le_trans (zTM (B:=4200001000) (l.map txF) [42] λx hx=> ?_) (by
   rw [List.length_map]; have:=Nat.mul_le_mul hl (Nat.le_refl 4200001000); omega)
  obtain ⟨f,hf,rfl⟩:=List.mem_map.1 hx;have:=(hg f hf).2.1;have:=zqh f.Exp;unfold txF zLy;split
  ·simp only [qf,List.length_nil]; omega
  ·simp only [qg,qf,List.length_nil]; omega
 rw [Wy.fin_bn,e,show ByteArray.mk #[(42:UInt8)]=bs [42] from rfl]
 unfold strings_Join;simp only [cond_true,Wy.fin_bn,Wy.fin_k,zXd _ _ (by rw [List.length_map]; omega) hlen]
 unfold txL;rw [zyP]
theorem zbcz (a:yB) (hl:a.length<=1000) (hlen:(txN a).length<=140737488355328) (hg:∀ t∈a,gF t.Fs=(true,bs (txL t.Fs))/\(txL t.Fs).length<=4200000000/\rng t.Cf):zpi gF a=(true,bs (txN a)):=by
 have hreach:zG=70368744177664:=rfl;unfold zpi zD5;by_cases h0:a=[]
 ·subst h0;have e:txN []=[48]:=by unfold txN; rw [zPp]; rfl
  rw [e]; rfl
 have hne:(Int.ofNat a.length==(0:Int))=false:=by
  rw [beq_eq_false_iff_ne]; intro e;have:(a.length:Int)=0:=e;exact h0 (List.length_eq_zero_iff.1 (by omega))
 have:=zcA (W:=zvO gF) (z:=default) a.length (λi=>((),a,(a.length:Int),(i:Int),())) (λi=>((a.take i).map λf=>bs (txT f),())) (λ_=>true) default (a.map λf=>bs (txT f))
  (λi hi H K D=>by
   show (zlg gF a a.length i ((a.take i).map λf=>bs (txT f))).ev H K D=_
   unfold zlg;obtain ⟨h1,h2,h3⟩:=hg _ (zl hi);have l1:=zqh (a.getD i default).Cf;rw [show ByteArray.mk #[(42:UInt8)]=bs [42] from rfl]
   have hL:decide ((i:Int)<(a.length:Int))=true:=by simp [hi]
   have hL':decide ((i:Int)<Int.ofNat a.length)=true:=hL;simp only [Wy.ev_i,Wy.ev_k,Wy.ev_h,Wy.ev_bn,Wy.ev_d,hL,hL',ze4,Bool.and_self,cond_true,Int.toNat_natCast,h1,z5V h3,zDn,zu2,qg,qf,List.length_nil,show (Int.ofNat (a.getD i default).Fs.length==(0:Int))=((a.getD i default).Fs.length==0) from ztf _ 0]
   rw [okS _ _ (by omega),okS _ _ (by omega),zB (by omega),zha hi,List.map_append]
   have hb:decide ((((a.take i).map λf=>bs (txT f)).length+1)*16<=zG)=true:=by simp only [qe,List.length_map,List.length_take]; omega
   generalize ((a.take i).map λf=>bs (txT f))=out at hb ⊢
   have hb':decide ((out.length+(0+1))*16<=zG)=true:=hb;simp only [hb,hb',cond_true,List.map_cons,List.map_nil,txT,zUW,zhD]
   have e0:(zKh (a.getD i default).Fs=[])↔(a.getD i default).Fs.length=0:=by
    rw [zyP,List.map_eq_nil_iff,List.length_eq_zero_iff]
   by_cases hf:(a.getD i default).Fs.length=0
   ·rw [if_pos (e0.2 hf),hf]; rfl
   ·rw [if_neg (λe=>hf (e0.1 e)),zW2,decide_eq_false hf]
    by_cases he:(a.getD i default).Cf=1
    ·simp only [he,decide_true,cond_true,cond_false,if_true,txL]
    ·simp only [he,decide_false,cond_false,if_false,txL,List.append_assoc,List.singleton_append])
  (λH K D=>by
   show (zlg gF a a.length a.length ((a.take a.length).map λf=>bs (txT f))).ev H K D=_
   unfold zlg;simp only [Wy.ev_i,Wy.ev_k,tT,Nat.lt_irrefl,List.take_length]) (a.length+(Int.ofNat a.length).toNat +Int.toNat (0:Int)+(0:Nat)+(1:Nat)) (by omega)
 rw [show zeb (λ_=>true) a.length 0=true from zdB.2 λ_ _ _=>rfl] at this
 have e:zCY gF (a.length+(Int.ofNat a.length).toNat +Int.toNat (0:Int)+(0:Nat)+(1:Nat)) a (Int.ofNat a.length) (0:Int) []=(true,(a.map txT).map bs):=by rw [List.map_map]; exact this
 have ex:txN a=zeY (a.map txT) [32,43,32]:=by
  unfold txN zPt;rw [zPG,if_neg (by simpa using h0)]
 rw [ex] at hlen ⊢;rw [Wy.fin_i,hne,cond_false,Wy.fin_bn,e,show ByteArray.mk #[(32:UInt8),(43:UInt8),(32:UInt8)]=bs [32,43,32] from rfl]
 unfold strings_Join;simp only [cond_true,Wy.fin_bn,Wy.fin_k,zXd _ _ (by rw [List.length_map]; omega) hlen]
theorem zbco {V:yB->Bool} (x:At) (hx:zef V x=true) (hw:zgS x) (hi:x.Items.length<=1024) (hg:∀ a,(a∈x.Ag\/∃ w∈x.Items,a=w.Ann)->gT a=(true,bs (txN a))/\(txN a).length<=4200000000):zjs gT x=(true,bs (txA x)):=by
 have hreach:zG=70368744177664:=rfl;have W:=ztz hw;unfold zjs zxQ;rw [zbc8];cases zdz.1 hx with
 | var r h=>
  have hr:=W.2.2.2.2.1;simp only [Wy.fin_bn,Wy.fin_i,Wy.fin_k,z9g h (zmI hr.1) (zmI hr.2)];simp [zds]
 | mon a b ha hb _ _ _=>
  obtain ⟨g1,l1⟩:=hg a (.inl (by simp))
  obtain ⟨g2,l2⟩:=hg b (.inl (by simp))
  rw [zmz];simp only [List.map,zds,List.getD_cons_zero,List.getD_cons_succ,show ¬ (1:Int)=0 by decide,if_false,if_true]
  rw [show ByteArray.mk #[(109:UInt8),(111:UInt8),(110:UInt8),(117:UInt8),(115:UInt8),(91:UInt8)]=bs [109,111,110,117,115,91] from rfl,show ByteArray.mk #[(44:UInt8),(32:UInt8)]=bs [44,32] from rfl,show ByteArray.mk #[(93:UInt8)]=bs [93] from rfl]
  simp only [cond_true,cond_false,Wy.fin_i,Wy.fin_bn,Wy.fin_k,show ((1:Int)==0)=false from rfl,show ((1:Int)==1)=true from rfl,show (decide ((0:Int)<=0)&&decide ((0:Int)<Int.ofNat [a,b].length))=true from rfl,show (decide ((0:Int)<=1)&&decide ((1:Int)<Int.ofNat [a,b].length))=true from rfl,show [a,b].getD (Int.toNat 0) default=a from rfl,show [a,b].getD (Int.toNat 1) default=b from rfl,g1,g2,zDn,zu2,List.length_append,List.length_cons,List.length_nil]
  rw [okS _ _ (by omega),okS _ _ (by omega),okS _ _ (by omega),okS _ _ (by omega)]
  simp
 | del a ha _ _ _=>
  obtain ⟨g1,l1⟩:=hg a (.inl (by simp))
  rw [zmz];simp only [List.map,zds,List.getD_cons_zero,show ¬ (2:Int)=0 by decide,show ¬ (2:Int)=1 by decide,if_false,if_true]
  rw [show ByteArray.mk #[(100:UInt8),(101:UInt8),(108:UInt8),(116:UInt8),(97:UInt8),(91:UInt8)]=bs [100,101,108,116,97,91] from rfl,show ByteArray.mk #[(93:UInt8)]=bs [93] from rfl]
  simp only [cond_true,cond_false,Wy.fin_i,Wy.fin_bn,Wy.fin_k,show ((2:Int)==0)=false from rfl,show ((2:Int)==1)=false from rfl,show ((2:Int)==2)=true from rfl,show (decide ((0:Int)<=0)&&decide ((0:Int)<Int.ofNat [a].length))=true from rfl,show [a].getD (Int.toNat 0) default=a from rfl,g1,zDn,zu2,List.length_append,List.length_cons,List.length_nil]
  rw [okS _ _ (by omega),okS _ _ (by omega)]
  simp
 | abs a ha _ _=>
  obtain ⟨g1,l1⟩:=hg a (.inl (by simp))
  rw [zmz];simp only [List.map,zds,List.getD_cons_zero,show ¬ (3:Int)=0 by decide,show ¬ (3:Int)=1 by decide,show ¬ (3:Int)=2 by decide,if_false,if_true]
  rw [show ByteArray.mk #[(97:UInt8),(98:UInt8),(115:UInt8),(101:UInt8),(110:UInt8),(116:UInt8),(91:UInt8)]=bs [97,98,115,101,110,116,91] from rfl,show ByteArray.mk #[(93:UInt8)]=bs [93] from rfl]
  simp only [cond_true,cond_false,Wy.fin_i,Wy.fin_bn,Wy.fin_k,show ((3:Int)==0)=false from rfl,show ((3:Int)==1)=false from rfl,show ((3:Int)==2)=false from rfl,show ((3:Int)==3)=true from rfl,show (decide ((0:Int)<=0)&&decide ((0:Int)<Int.ofNat [a].length))=true from rfl,show [a].getD (Int.toNat 0) default=a from rfl,g1,zDn,zu2,List.length_append,List.length_cons,List.length_nil]
  rw [okS _ _ (by omega),okS _ _ (by omega)]
  simp
 | tst f l o b hl hv hs hf=>
  obtain ⟨⟨f0,f3,o5,o10⟩,hb,hit⟩:=ztC hf;have hwl:=zkc W.2.1.1;have hwb:rng b.Int:=zmI W.2.2.1.2.1
  have:=zcA (W:=znL gT) (z:=default) l.length (λi=>((),(),l,(l.length:Int),(i:Int),())) (λi=>((⟨4,⟨0,0⟩,[],f,l,o,b⟩:At),(l.take i).map λw=>bs (txI w),())) (λ_=>true) default ((⟨4,⟨0,0⟩,[],f,l,o,b⟩:At),l.map λw=>bs (txI w))
   (λi hi' H K D=>by
    show (zgo gT l l.length i (⟨4,⟨0,0⟩,[],f,l,o,b⟩:At) ((l.take i).map λw=>bs (txI w))).ev H K D=_
    unfold zgo;have hm:=zl hi';obtain ⟨g1,l1⟩:=hg _ (.inr ⟨_,hm,rfl⟩);have l2:=zOP (hit _ hm).1;rw [show ByteArray.mk #[(58:UInt8),(32:UInt8)]=bs [58,32] from rfl]
    simp only [Wy.ev_i,Wy.ev_k,Wy.ev_h,Wy.ev_bn,Wy.ev_d,tT,hi',z4x (hit _ hm).1 (zmI (hwl _ hm).1.2.1),g1,zDn,zu2,qg,qf,List.length_nil];rw [okS _ _ (by omega),okS _ _ (by omega),zB (by simp only at hi; omega),zha hi',List.map_append]
    have hb:decide ((((l.take i).map λw=>bs (txI w)).length+1)*16<=zG)=true:=by simp only at hi; simp only [qe,List.length_map,List.length_take]; omega
    generalize ((l.take i).map λw=>bs (txI w))=out at hb ⊢
    have hb':decide ((out.length+(0+1))*16<=zG)=true:=hb;simp only [hb,hb',cond_true,List.map_cons,List.map_nil,txI,List.append_assoc])
   (λH K D=>by
    show (zgo gT l l.length l.length (⟨4,⟨0,0⟩,[],f,l,o,b⟩:At) ((l.take l.length).map λw=>bs (txI w))).ev H K D=_
    unfold zgo;simp only [Wy.ev_i,Wy.ev_k,tT,Nat.lt_irrefl,List.take_length]) (l.length+(Int.ofNat l.length).toNat +Int.toNat (0:Int)+([]:yA).length+l.length+(0:Nat)+(1:Nat)) (by omega)
  rw [show zeb (λ_=>true) l.length 0=true from zdB.2 λ_ _ _=>rfl] at this
  have e:zvw gT (l.length+(Int.ofNat l.length).toNat +Int.toNat (0:Int)+([]:yA).length+l.length+(0:Nat)+(1:Nat)) l (Int.ofNat l.length) (0:Int) (⟨4,⟨0,0⟩,[],f,l,o,b⟩:At) []=(true,((⟨4,⟨0,0⟩,[],f,l,o,b⟩:At),(l.map txI).map bs)):=by rw [List.map_map]; exact this
  simp only at hi
  have hlen:(zeY (l.map txI) [59,32]).length<=5000000000000:=by
   refine Nat.le_trans (zTM (B:=4200001000) (l.map txI) [59,32] λy hy=> ?_) (by
    rw [List.length_map]; have:=Nat.mul_le_mul hi (Nat.le_refl 4200001000); omega)
   obtain ⟨w,hw,rfl⟩:=List.mem_map.1 hy;have h1:=(hg _ (.inr ⟨w,hw,rfl⟩)).2;have h2:=zOP (hit w hw).1;simp only [txI,qg,qf,List.length_nil]; omega
  have l3:=z5x f;have l4:=z5O o;have l5:=zOP hb;rw [zJx];simp only [zds,show ¬ (4:Int)=0 by decide,show ¬ (4:Int)=1 by decide,show ¬ (4:Int)=2 by decide,show ¬ (4:Int)=3 by decide,if_false]
  rw [show ByteArray.mk #[(116:UInt8),(101:UInt8),(115:UInt8),(116:UInt8),(91:UInt8)]=bs [116,101,115,116,91] from rfl,show ByteArray.mk #[(123:UInt8)]=bs [123] from rfl,show ByteArray.mk #[(125:UInt8),(32:UInt8)]=bs [125,32] from rfl,show ByteArray.mk #[(59:UInt8),(32:UInt8)]=bs [59,32] from rfl,show ByteArray.mk #[(32:UInt8)]=bs [32] from rfl,show ByteArray.mk #[(93:UInt8)]=bs [93] from rfl]
  simp only [Wy.fin_i,show ((4:Int)==0)=false from rfl,show ((4:Int)==1)=false from rfl,show ((4:Int)==2)=false from rfl,show ((4:Int)==3)=false from rfl,cond_false]
  unfold strings_Join;obtain ⟨fb,ft⟩:=zbbG f0 f3;obtain ⟨ob,ot⟩:=zbaD o5 o10;rw [e,zVq];simp only [Wy.fin_i,Wy.fin_k,Wy.fin_bn,fb,ft,ob,ot,zXd _ _ (show (l.map txI).length<=140737488355328 by rw [List.length_map]; omega) (show (zeY (l.map txI) [59,32]).length<=140737488355328 by omega),z4x hb hwb,cond_true,zDn,zu2,List.length_append,List.length_cons,List.length_nil]
  rw [okS _ _ (by omega),okS _ _ (by omega),okS _ _ (by omega),okS _ _ (by omega),okS _ _ (by omega),okS _ _ (by omega),okS _ _ (by omega),okS _ _ (by omega)]
  simp
end
theorem z4n:∀ n,
  (∀ m a,zbr m a=true->zg5 a->3*m<=n->zpc n a=(true,bs (txN a)))/\
  (∀ m x,zef (zbr m) x=true->zgS x->x.Items.length<=1024->3*m+1<=n->zl1 n x=(true,bs (txA x)))/\
  (∀ m (l:yC),l.length<=1000->(∀ f∈l,zef (zbr m) f.At=true/\zgS f.At/\f.At.Items.length<=1024/\rng f.Exp)->3*m+2<=n->zgQ n l=(true,bs (txL l)))
 | 0=>by
  refine ⟨?_, ?_, ?_⟩
  ·intro m a h _ hm; have:m=0:=by omega
   subst this; cases h
  all_goals (intros; omega)
 | n+1=>by
  obtain ⟨h1,h2,h3⟩:=z4n n;refine ⟨?_, ?_, ?_⟩
  ·intro m a h hw hm;cases m with
   | zero=>cases h
   | succ m=>
    have hl:=zvI (zGt h);have hlen:=(zVk (m+1)).1 a h;rw [zQo];refine zbcz _ a (by omega) (by omega) λt ht=> ?_
    obtain ⟨⟨c1,c2⟩,hok⟩:=zvt h ht;obtain ⟨q1,q2⟩:=hl.2.2.2 t ht;have hwt:=zoC (zvJ (zs8 hw t ht)).2.1;refine ⟨h3 m t.Fs (by omega) (λf hf=> ?_) (by omega), ?_,by constructor <;>omega⟩
    ·obtain ⟨⟨e1,_⟩,hv⟩:=zpH hok hf;exact ⟨hv,(zrm (hwt f hf)).1,(q2 f hf).2,by have:=(q2 f hf).1; constructor <;>omega⟩
    ·refine Nat.le_trans (z4t λf hf=>(zVk m).2 _ (zpH hok hf).2) ?_
     have hs:t.Fs.length+zbz t.Fs<=zM a:=by
      clear hok q1 q2 hwt hw h hlen hl;induction a with
      | nil=>cases ht
      | cons b r ih=>
       rw [zgb];rcases qd.1 ht with rfl | ht
       ·omega
       ·have:=ih ht; omega
     omega
  ·intro m x h hw hi hm;rw [zGV];have W:=ztz hw;refine zbco _ x h hw hi λa ha=> ?_
   have hv:zbr m a=true/\zg5 a:=by
    rcases ha with ha | ⟨w,hw',rfl⟩
    ·refine ⟨?_,(zkl W.1.1 a ha).1⟩;cases zdz.1 h with
     | var r h=>cases ha
     | mon b c hb hc _ _ _=>
      simp only [qd,List.not_mem_nil,or_false] at ha;rcases ha with rfl | rfl
      ·exact hb
      ·exact hc
     | del b hb _ _ _=>rw [qh] at ha; subst ha; exact hb
     | abs b hb _ _=>rw [qh] at ha; subst ha; exact hb
     | tst f l o b hl hi hs hf=>cases ha
    ·refine ⟨?_,(zkc W.2.1.1 w hw').2.1⟩;cases zdz.1 h with
     | tst f l o b hl hi2 hs hf=>exact (hi2 w hw').1
     | _=>cases hw'
   refine ⟨h1 m a hv.1 hv.2 (by omega), ?_⟩
   have q1:=(zVk m).1 a hv.1;have q2:=(zfk hv.1).2.1;omega
  ·intro m l hl h hm;rw [zDN];refine zbcw _ l hl λf hf=> ?_
   obtain ⟨q1,q2,q3,q4⟩:=h f hf;refine ⟨h2 m f.At q1 q2 q3 (by omega), ?_,q4⟩
   have q5:=(zVk m).2 f.At q1;have q6:=zWF q1 q3;omega
def hd (S:List UInt8) (u:List UInt8):Prop:=∀ c,u.head? =some c->c∈S
theorem zqG {S:List UInt8} {c:UInt8} {u:List UInt8} (h:c∈S):hd S (c::u):=λd hd=>by
 simp only [List.head?_cons,qa] at hd; subst hd; exact h
theorem hd.mono {S T:List UInt8} {u:List UInt8} (h:hd S u) (hs:∀ c∈S,c∈T):hd T u:=λc hc=>hs c (h c hc)
theorem hd.noDig {S:List UInt8} {u:List UInt8} (h:hd S u) (hs:∀ c∈S,zsI c=false):noDig u:=λc hc=>hs c (h c hc)
theorem hd.ne {S:List UInt8} {u:List UInt8} (h:hd S u) {c:UInt8} (hs:c∉S):u.head? ≠some c:=λe=>hs (h c e)
theorem hd.cons_ne {S:List UInt8} {u:List UInt8} {c:UInt8} (h:hd S (c::u)) (hs:c∉S):False:=hs (h c rfl)
theorem zLN {α:Type} (tx:α->List UInt8) (S0:List UInt8) (s0:UInt8) (sr:List UInt8) (P:α->Prop) (hS:s0∉S0) (hR:∀ x y,P x->P y->∀ u v,hd (s0::S0) u->hd (s0::S0) v->tx x++u=tx y++v->x=y/\u=v):
  ∀ l l':List α,l≠[]->l'≠[]->(∀ x∈l,P x)->(∀ x∈l',P x)->∀ u v,hd S0 u->hd S0 v->zeY (l.map tx) (s0::sr)++u=zeY (l'.map tx) (s0::sr)++v->l=l'/\u=v
 | [],_,h,_,_,_,_,_,_,_,_=>absurd rfl h
 | _::_,[],_,h,_,_,_,_,_,_,_=>absurd rfl h
 | [x],[y],_,_,hx,hy,u,v,hu,hv,h=>by
  have mono:∀ c∈S0,c∈s0::S0:=λc hc=>List.mem_cons_of_mem _ hc
  obtain ⟨h1,h2⟩:=hR x y (hx x (by simp)) (hy y (by simp)) u v (hu.mono mono) (hv.mono mono) h
  exact ⟨by rw [h1],h2⟩
 | [x],y::y'::r',_,_,hx,hy,u,v,hu,hv,h=>by
  have mono:∀ c∈S0,c∈s0::S0:=λc hc=>List.mem_cons_of_mem _ hc
  simp only [List.map,zeY,List.append_assoc] at h;obtain ⟨h1,h2⟩:=hR x y (hx x (by simp)) (hy y (by simp)) u _ (hu.mono mono) (zqG (by simp)) h
  rw [h2] at hu;exact (hu.cons_ne hS).elim
 | x::x'::r,[y],_,_,hx,hy,u,v,hu,hv,h=>by
  have mono:∀ c∈S0,c∈s0::S0:=λc hc=>List.mem_cons_of_mem _ hc
  simp only [List.map,zeY,List.append_assoc] at h;obtain ⟨h1,h2⟩:=hR x y (hx x (by simp)) (hy y (by simp)) _ v (zqG (by simp)) (hv.mono mono) h
  rw [<- h2] at hv;exact (hv.cons_ne hS).elim
 | x::x'::r,y::y'::r',_,_,hx,hy,u,v,hu,hv,h=>by
  have h:zeY (((x::x'::r)).map tx) (s0::sr)++u=zeY (((y::y'::r')).map tx) (s0::sr)++v:=h;simp only [List.map,zeY,List.append_assoc] at h;obtain ⟨h1,h2⟩:=hR x y (hx x (by simp)) (hy y (by simp)) _ _ (zqG (by simp)) (zqG (by simp)) h
  have h3:=(List.append_right_inj sr).1 (List.cons.inj h2).2;obtain ⟨h4,h5⟩:=zLN tx S0 s0 sr P hS hR (x'::r) (y'::r') (by simp) (by simp) (λz hz=>hx z (List.mem_cons_of_mem _ hz)) (λz hz=>hy z (List.mem_cons_of_mem _ hz)) u v hu hv h3
  exact ⟨by rw [h1,h4],h5⟩
theorem z2t {t:ByteArray} (h:t.size=0):t=ByteArray.mk #[]:=zFX (by
 have:t.data.toList.length=0:=by rw [Array.length_toList]; exact h
 rw [List.length_eq_zero_iff.1 this])
theorem z30 {x y:Value} (hx:zsB x=true) (hy:zsB y=true) (rx:rng x.Int) (ry:rng y.Int) {u v:List UInt8} (hu:hd [58,93] u) (hv:hd [58,93] v) (h:txV x++u=txV y++v):x=y/\u=v:=by
 have d1:∀ c∈([58,93]:List UInt8),zsI c=false:=by decide
 obtain ⟨cx,sx,ex,dx⟩:=z1J rx.1 rx.2;obtain ⟨cy,sy,ey,dy⟩:=z1J ry.1 ry.2
 have nd:∀ c:UInt8,c=45\/zsI c=true->c≠39/\c≠84/\c≠70:=λc hc=>by
  refine ⟨?_, ?_, ?_⟩ <;>(intro e; subst e; revert hc; decide)
 obtain ⟨kx,ix,tx⟩:=x;obtain ⟨ky,iy,ty⟩:=y;simp only [zsB,Bool.or_eq_true,qc,beq_iff_eq,qe] at hx hy;simp only at rx ry ex ey;rcases hx with (⟨rfl,hx⟩ | ⟨⟨rfl,rfl⟩,hx⟩) | ⟨⟨rfl,hx⟩,hx2⟩
 ·have:=z2t hx; subst this;rcases hy with (⟨rfl,hy⟩ | ⟨⟨rfl,rfl⟩,hy⟩) | ⟨⟨rfl,hy⟩,hy2⟩
  ·have:=z2t hy; subst this;simp only [txV,if_true] at h;obtain ⟨h1,h2⟩:=zvB rx ry (hu.noDig d1) (hv.noDig d1) h;exact ⟨by rw [h1],h2⟩
  ·simp only [txV,if_true,show ¬ (1:Int)=0 by decide,if_false,ex,List.cons_append,qj] at h
   exact absurd h.1 (nd cx dx).1
  ·rcases hy2 with rfl | rfl
   ·simp only [txV,if_true,show ¬ (2:Int)=0 by decide,show ¬ (2:Int)=1 by decide,show ¬ (0:Int)=1 by decide,if_false,ex,List.cons_append,qj] at h
    exact absurd h.1 (nd cx dx).2.2
   ·simp only [txV,if_true,show ¬ (2:Int)=0 by decide,show ¬ (2:Int)=1 by decide,if_false,ex,List.cons_append,qj] at h
    exact absurd h.1 (nd cx dx).2.1
 ·rcases hy with (⟨rfl,hy⟩ | ⟨⟨rfl,rfl⟩,hy⟩) | ⟨⟨rfl,hy⟩,hy2⟩
  ·simp only [txV,if_true,show ¬ (1:Int)=0 by decide,if_false,ey,List.cons_append,qj] at h
   exact absurd h.1.symm (nd cy dy).1
  ·simp only [txV,if_true,show ¬ (1:Int)=0 by decide,if_false,List.cons_append,qj,true_and,List.append_assoc,List.nil_append] at h
   obtain ⟨h1,h2⟩:=zW9 _ _ u v (hu.ne (by decide)) (hv.ne (by decide)) h
   exact ⟨by rw [zFX h1],h2⟩
  ·rcases hy2 with rfl | rfl <;>simp [txV] at h
 ·have:=z2t hx; subst this;rcases hy with (⟨rfl,hy⟩ | ⟨⟨rfl,rfl⟩,hy⟩) | ⟨⟨rfl,hy⟩,hy2⟩
  ·rcases hx2 with rfl | rfl
   ·simp only [txV,if_true,show ¬ (2:Int)=0 by decide,show ¬ (2:Int)=1 by decide,show ¬ (0:Int)=1 by decide,if_false,ey,List.cons_append,qj] at h
    exact absurd h.1.symm (nd cy dy).2.2
   ·simp only [txV,if_true,show ¬ (2:Int)=0 by decide,show ¬ (2:Int)=1 by decide,if_false,ey,List.cons_append,qj] at h
    exact absurd h.1.symm (nd cy dy).2.1
  ·rcases hx2 with rfl | rfl <;>simp [txV] at h
  ·have:=z2t hy; subst this;rcases hx2 with rfl | rfl <;>rcases hy2 with rfl | rfl <;>simp [txV] at h
   ·exact ⟨rfl,h⟩
   ·exact ⟨rfl,h⟩
theorem z9x {f g:Int} (hf:0<=f/\f<=3) (hg:0<=g/\g<=3) {u v:List UInt8} (h:fnT f++123::u=fnT g++123::v):f=g/\u=v:=by
 have c1:f=0\/f=1\/f=2\/f=3:=by omega
 have c2:g=0\/g=1\/g=2\/g=3:=by omega
 rcases c1 with rfl | rfl | rfl | rfl <;>rcases c2 with rfl | rfl | rfl | rfl <;>simp [fnT] at h <;>exact ⟨rfl,h⟩
theorem z81 {f g:Int} (hf:5<=f/\f<=10) (hg:5<=g/\g<=10) {u v:List UInt8} (h:opT f++32::u=opT g++32::v):f=g/\u=v:=by
 have c1:f=5\/f=6\/f=7\/f=8\/f=9\/f=10:=by omega
 have c2:g=5\/g=6\/g=7\/g=8\/g=9\/g=10:=by omega
 rcases c1 with rfl | rfl | rfl | rfl | rfl | rfl <;>rcases c2 with rfl | rfl | rfl | rfl | rfl | rfl <;>simp [opT] at h <;>exact ⟨rfl,h⟩
def SN:List UInt8:=[93,44,59,125]
def ST:List UInt8:=32::SN
def SF:List UInt8:=42::ST
def SA:List UInt8:=94::SF
theorem zY7:∀ c∈SA,zsI c=false:=by decide
theorem zbd1:∀ c∈ST,c∈SA:=by decide
theorem zYC:∀ c∈SF,c∈SA:=by decide
def RdN (V:yB->Bool):Prop:=∀ a b,V a=true->V b=true->zg5 a->zg5 b->∀ u v,hd SN u->hd SN v->txN a++u=txN b++v->a=b/\u=v
def RdA (V:yB->Bool):Prop:=∀ x y,zef V x=true->zef V y=true->zgS x->zgS y->∀ u v,hd SA u->hd SA v->txA x++u=txA y++v->x=y/\u=v
theorem z88 {V:yB->Bool} {x:At} (h:zef V x=true):∃ c r,txA x=c::r/\zsI c=false:=by
 cases zdz.1 h with
 | var r h=>rw [txA]; exact ⟨116,_,rfl,rfl⟩
 | mon a b _ _ _ _ _=>rw [txA]; exact ⟨109,_,rfl,rfl⟩
 | del a _ _ _ _=>rw [txA]; exact ⟨100,_,rfl,rfl⟩
 | abs a _ _ _=>rw [txA]; exact ⟨97,_,rfl,rfl⟩
 | tst f l o b _ _ _ _=>rw [txA]; exact ⟨116,_,rfl,rfl⟩
theorem z7W {V:yB->Bool} (hV:RdN V):RdA V:=by
 intro x y hx hy wx wy u v hu hv h;have Wx:=ztz wx;have Wy:=ztz wy;have k0:¬ (1:Int)=0:=by decide
 have c44:∀ z,hd SN (44::z):=λz=>zqG (by decide)
 have c93:∀ z,hd SN (93::z):=λz=>zqG (by decide)
 have tE:∀ (r:RowID),zzu r=true->rng r.Table->∀ w z,zjb r.Table++w≠101::z:=λr hr hg w z e=>by
  simp only [zzu,qc,qe] at hr;obtain ⟨d1,d2⟩:=z7Q (show 0<=r.Table by omega) hg.2
  cases hl:zjb r.Table with
  | nil=>exact d2 hl
  | cons c s=>
   rw [hl] at e d1;simp only [List.cons_append,qj] at e;rw [List.all_cons,e.1] at d1;revert d1; simp [zsI]
 cases zdz.1 hx with
 | var r hr=>
  have rr:=Wx.2.2.2.2.1;simp only at rr;cases zdz.1 hy with
  | var r' hr'=>
   have rr':=Wy.2.2.2.2.1;simp only at rr';rw [txA,txA] at h;simp only [zds,if_true,txR,List.cons_append,qj,true_and,List.append_assoc] at h;obtain ⟨h1,h2⟩:=zvB (zmI rr.1) (zmI rr'.1) (λc hc=>by simp only [List.head?_cons,qa] at hc; subst hc; rfl) (λc hc=>by simp only [List.head?_cons,qa] at hc; subst hc; rfl) h
   simp only [qj,true_and] at h2;obtain ⟨h3,h4⟩:=zvB (zmI rr.2) (zmI rr'.2) (hu.noDig zY7) (hv.noDig zY7) h2;obtain ⟨t,s⟩:=r; obtain ⟨t',s'⟩:=r';simp only at h1 h3;exact ⟨by rw [h1,h3],h4⟩
  | tst f l o b _ _ _ _=>
   rw [txA,txA] at h;simp only [zds,if_true,txR,show ¬ (4:Int)=0 by decide,show ¬ (4:Int)=1 by decide,show ¬ (4:Int)=2 by decide,show ¬ (4:Int)=3 by decide,if_false,List.cons_append,qj,true_and,List.append_assoc] at h
   exact absurd h (tE r hr (zmI rr.1) _ _)
  | mon a b _ _ _ _ _=>rw [txA,txA] at h; simp [zds,txR] at h
  | del a _ _ _ _=>rw [txA,txA] at h; simp [zds,txR] at h
  | abs a _ _ _=>rw [txA,txA] at h; simp [zds,txR] at h
 | mon a b ha hb _ _ _=>
  cases zdz.1 hy with
  | mon a' b' ha' hb' _ _ _=>
   rw [txA,txA,zmz,zmz] at h;simp only [zds,if_true,k0,if_false,List.map,List.getD_cons_zero,List.getD_cons_succ,List.cons_append,qj,true_and,List.append_assoc,List.nil_append] at h;have wa:=λz hz=>(zkl Wx.1.1 z hz).1
   have wb:=λz hz=>(zkl Wy.1.1 z hz).1
   obtain ⟨h1,h2⟩:=hV a a' ha ha' (wa a (by simp)) (wb a' (by simp)) _ _ (c44 _) (c44 _) h
   simp only [qj,true_and] at h2;obtain ⟨h3,h4⟩:=hV b b' hb hb' (wa b (by simp)) (wb b' (by simp)) _ _ (c93 _) (c93 _) h2
   simp only [qj,true_and] at h4;exact ⟨by rw [h1,h3],h4⟩
  | var r h=>rw [txA,txA] at h; simp [zds,txR] at h
  | del a _ _ _ _=>rw [txA,txA] at h; simp [zds,txR] at h
  | abs a _ _ _=>rw [txA,txA] at h; simp [zds,txR] at h
  | tst f l o b _ _ _ _=>rw [txA,txA] at h; simp [zds,txR] at h
 | del a ha _ _ _=>
  cases zdz.1 hy with
  | del a' ha' _ _ _=>
   rw [txA,txA,zmz,zmz] at h;simp only [zds,if_true,show ¬ (2:Int)=0 by decide,show ¬ (2:Int)=1 by decide,if_false,List.map,List.getD_cons_zero,List.cons_append,qj,true_and,List.append_assoc,List.nil_append] at h
   have wa:=λz hz=>(zkl Wx.1.1 z hz).1
   have wb:=λz hz=>(zkl Wy.1.1 z hz).1
   obtain ⟨h1,h2⟩:=hV a a' ha ha' (wa a (by simp)) (wb a' (by simp)) _ _ (c93 _) (c93 _) h
   simp only [qj,true_and] at h2;exact ⟨by rw [h1],h2⟩
  | var r h=>rw [txA,txA] at h; simp [zds,txR] at h
  | mon a b _ _ _ _ _=>rw [txA,txA] at h; simp [zds,txR] at h
  | abs a _ _ _=>rw [txA,txA] at h; simp [zds,txR] at h
  | tst f l o b _ _ _ _=>rw [txA,txA] at h; simp [zds,txR] at h
 | abs a ha _ _=>
  cases zdz.1 hy with
  | abs a' ha' _ _=>
   rw [txA,txA,zmz,zmz] at h;simp only [zds,if_true,show ¬ (3:Int)=0 by decide,show ¬ (3:Int)=1 by decide,show ¬ (3:Int)=2 by decide,if_false,List.map,List.getD_cons_zero,List.cons_append,qj,true_and,List.append_assoc,List.nil_append] at h
   have wa:=λz hz=>(zkl Wx.1.1 z hz).1
   have wb:=λz hz=>(zkl Wy.1.1 z hz).1
   obtain ⟨h1,h2⟩:=hV a a' ha ha' (wa a (by simp)) (wb a' (by simp)) _ _ (c93 _) (c93 _) h
   simp only [qj,true_and] at h2;exact ⟨by rw [h1],h2⟩
  | var r h=>rw [txA,txA] at h; simp [zds,txR] at h
  | mon a b _ _ _ _ _=>rw [txA,txA] at h; simp [zds,txR] at h
  | del a _ _ _ _=>rw [txA,txA] at h; simp [zds,txR] at h
  | tst f l o b _ _ _ _=>rw [txA,txA] at h; simp [zds,txR] at h
 | tst f l o b hl hi hs hf=>
  cases zdz.1 hy with
  | tst f' l' o' b' hl' hi' hs' hf'=>
   obtain ⟨⟨f0,f3,o5,o10⟩,hb,hit⟩:=ztC hf;obtain ⟨⟨f0',f3',o5',o10'⟩,hb',hit'⟩:=ztC hf';have wl:=zkc Wx.2.1.1;have wl':=zkc Wy.2.1.1;rw [txA,txA,zJx,zJx] at h;simp only [zds,show ¬ (4:Int)=0 by decide,show ¬ (4:Int)=1 by decide,show ¬ (4:Int)=2 by decide,show ¬ (4:Int)=3 by decide,if_false,List.cons_append,qj,true_and,List.append_assoc,List.nil_append] at h
   obtain ⟨h1,h2⟩:=z9x ⟨f0,f3⟩ ⟨f0',f3'⟩ h
   obtain ⟨h3,h4⟩:=zLN txI [125] 59 [32] (λw=>(V w.Ann=true/\zg5 w.Ann)/\zsB w.Value=true/\rng w.Value.Int) (by decide) (λx y px py u v hu hv e=>by
    simp only [txI,List.append_assoc,List.cons_append,List.nil_append] at e;obtain ⟨e1,e2⟩:=z30 px.2.1 py.2.1 px.2.2 py.2.2 (zqG (by decide)) (zqG (by decide)) e
    simp only [qj,true_and] at e2;obtain ⟨e3,e4⟩:=hV _ _ px.1.1 py.1.1 px.1.2 py.1.2 u v (hu.mono (by decide)) (hv.mono (by decide)) e2
    obtain ⟨vx,ax⟩:=x; obtain ⟨vy,ay⟩:=y;simp only at e1 e3;exact ⟨by rw [e1,e3],e4⟩) l l' hl hl' (λw hw=>⟨⟨(hi w hw).1,(wl w hw).2.1⟩,(hit w hw).1,zmI (wl w hw).1.2.1⟩) (λw hw=>⟨⟨(hi' w hw).1,(wl' w hw).2.1⟩,(hit' w hw).1,zmI (wl' w hw).1.2.1⟩) _ _ (zqG (by decide)) (zqG (by decide)) h2
   simp only [qj,true_and] at h4;obtain ⟨h5,h6⟩:=z81 ⟨o5,o10⟩ ⟨o5',o10'⟩ h4;obtain ⟨h7,h8⟩:=z30 hb hb' (zmI Wx.2.2.1.2.1) (zmI Wy.2.2.1.2.1) (zqG (by decide)) (zqG (by decide)) h6
   simp only [qj,true_and] at h8;exact ⟨by rw [h1,h3,h5,h7],h8⟩
  | var r hr=>
   have rr:=Wy.2.2.2.2.1;simp only at rr;rw [txA,txA] at h;simp only [zds,if_true,txR,show ¬ (4:Int)=0 by decide,show ¬ (4:Int)=1 by decide,show ¬ (4:Int)=2 by decide,show ¬ (4:Int)=3 by decide,if_false,List.cons_append,qj,true_and,List.append_assoc] at h
   exact absurd h.symm (tE r hr (zmI rr.1) _ _)
  | mon a b _ _ _ _ _=>rw [txA,txA] at h; simp [zds,txR] at h
  | del a _ _ _ _=>rw [txA,txA] at h; simp [zds,txR] at h
  | abs a _ _ _=>rw [txA,txA] at h; simp [zds,txR] at h
def gF (V:yB->Bool) (f:Fc):Prop:=zef V f.At=true/\zgS f.At/\rng f.Exp
theorem zbdg {V:yB->Bool} (hA:RdA V) {f g:Fc} (hf:gF V f) (hg:gF V g) {u v:List UInt8} (hu:hd SF u) (hv:hd SF v) (h:txF f++u=txF g++v):f=g/\u=v:=by
 obtain ⟨x,e⟩:=f; obtain ⟨y,e'⟩:=g;obtain ⟨a1,a2,a3⟩:=hf; obtain ⟨b1,b2,b3⟩:=hg;simp only at a1 a2 a3 b1 b2 b3;have c94:∀ z,hd SA (94::z):=λz=>zqG (by decide)
 have n94:(94:UInt8)∉SF:=by decide
 have dg:∀ c∈SF,zsI c=false:=λc hc=>zY7 c (zYC c hc)
 unfold txF zLy at h;simp only at h;by_cases h1:e=1
 ·by_cases h2:e'=1
  ·rw [if_pos h1,if_pos h2] at h;obtain ⟨q1,q2⟩:=hA x y a1 b1 a2 b2 u v (hu.mono zYC) (hv.mono zYC) h;exact ⟨by rw [q1,h1,h2],q2⟩
  ·rw [if_pos h1,if_neg h2,List.append_assoc] at h;obtain ⟨q1,q2⟩:=hA x y a1 b1 a2 b2 u _ (hu.mono zYC) (c94 _) h;rw [q2] at hu;exact (hu.cons_ne n94).elim
 ·by_cases h2:e'=1
  ·rw [if_neg h1,if_pos h2,List.append_assoc] at h;obtain ⟨q1,q2⟩:=hA x y a1 b1 a2 b2 _ v (c94 _) (hv.mono zYC) h;rw [<- q2] at hv;exact (hv.cons_ne n94).elim
  ·rw [if_neg h1,if_neg h2,List.append_assoc,List.append_assoc] at h;obtain ⟨q1,q2⟩:=hA x y a1 b1 a2 b2 _ _ (c94 _) (c94 _) h;simp only [List.cons_append,qj,true_and] at q2;obtain ⟨q3,q4⟩:=zvB a3 b3 (hu.noDig dg) (hv.noDig dg) q2;exact ⟨by rw [q1,q3],q4⟩
theorem zZK {V:yB->Bool} (hA:RdA V) {l l':yC} (hl:l≠[]) (hl':l'≠[]) (h1:∀ f∈l,gF V f) (h2:∀ f∈l',gF V f) {u v:List UInt8} (hu:hd ST u) (hv:hd ST v) (h:txL l++u=txL l'++v):l=l'/\u=v:=by
 unfold txL at h;rw [zyP,zyP] at h;exact zLN txF ST 42 [] (gF V) (by decide) (λx y px py u v hu hv e=>zbdg hA px py hu hv e) l l' hl hl' h1 h2 u v hu hv h
theorem zEN {V:yB->Bool} {l:yC} (hl:l≠[]) (h:∀ f∈l,gF V f):∃ c r,txL l=c::r/\zsI c=false:=by
 cases l with
 | nil=>exact absurd rfl hl
 | cons f r=>
  obtain ⟨c,s,e,hc⟩:=z88 (h f (by simp)).1
  have:∃ s',txF f=c::s':=by
   unfold txF zLy;split
   ·exact ⟨s,e⟩
   ·exact ⟨_,by rw [e]; rfl⟩
  obtain ⟨s',e'⟩:=this;unfold txL;rw [zyP];cases r with
  | nil=>exact ⟨c,s',by simp only [List.map,zeY]; exact e',hc⟩
  | cons g r=>exact ⟨c,_,by simp only [List.map,zeY]; rw [e']; rfl,hc⟩
def gT (V:yB->Bool) (t:Term):Prop:=(1<=t.Cf/\t.Cf<=9223372036854775807)/\∀ f∈t.Fs,gF V f
theorem z0m {n:Int} (h:1<=n) (h2:n<=9223372036854775807):∃ c r,zjb n=c::r/\zsI c=true/\c≠48:=by
 have e:zjb n=Lib.decDigits n.toNat:=by rw [zWP (by omega) h2,Lib.itoa,if_neg (by omega)]
 obtain ⟨a1,a2,a3,a4⟩:=zT1 n.toNat n.toNat (Nat.le_refl _);rw [e];cases hl:Lib.decDigits n.toNat with
 | nil=>exact absurd hl a3
 | cons c r=>
  rw [hl] at a1 a4;rw [List.all_cons,qc] at a1;exact ⟨c,r,rfl,a1.1,λe=>a4 (by omega) (by rw [e]; rfl)⟩
theorem z3K {l:yC}:zKh l=[]↔l=[]:=by rw [zyP,List.map_eq_nil_iff]
theorem z3G (t:Term):txT t=if t.Fs=[] then zjb t.Cf else if t.Cf=1 then txL t.Fs else zjb t.Cf++42::txL t.Fs:=by
 unfold txT zUW;by_cases h:t.Fs=[]
 ·rw [if_pos (z3K.2 h),if_pos h]
 ·rw [if_neg (λe=>h (z3K.1 e)),if_neg h]; rfl
theorem zbci {V:yB->Bool} (hA:RdA V) {s t:Term} (hs:gT V s) (ht:gT V t) {u v:List UInt8} (hu:hd ST u) (hv:hd ST v) (h:txT s++u=txT t++v):s=t/\u=v:=by
 obtain ⟨c,l⟩:=s; obtain ⟨c',l'⟩:=t;obtain ⟨⟨c1,c2⟩,h1⟩:=hs; obtain ⟨⟨c1',c2'⟩,h2⟩:=ht;simp only at c1 c2 h1 c1' c2' h2;have dg:∀ c∈ST,zsI c=false:=λc hc=>zY7 c (zbd1 c hc)
 have n42:(42:UInt8)∉ST:=by decide
 have d42:∀ z,noDig (42::z):=λz c hc=>by simp only [List.head?_cons,qa] at hc; subst hc; rfl
 have rc:rng c:=⟨by omega,c2⟩
 have rc':rng c':=⟨by omega,c2'⟩
 obtain ⟨d,r,e,hd,_⟩:=z0m c1 c2;obtain ⟨d',r',e',hd',_⟩:=z0m c1' c2';rw [z3G,z3G] at h;simp only at h;by_cases l0:l=[]
 ·rw [if_pos l0] at h;by_cases l0':l'=[]
  ·rw [if_pos l0'] at h;obtain ⟨q1,q2⟩:=zvB rc rc' (hu.noDig dg) (hv.noDig dg) h;exact ⟨by rw [q1,l0,l0'],q2⟩
  ·rw [if_neg l0'] at h;by_cases k':c'=1
   ·rw [if_pos k'] at h;obtain ⟨d2,r2,e2,hd2⟩:=zEN l0' h2;rw [e,e2] at h;simp only [List.cons_append,qj] at h;rw [h.1,hd2] at hd; cases hd
   ·rw [if_neg k',List.append_assoc] at h;obtain ⟨q1,q2⟩:=zvB rc rc' (hu.noDig dg) (d42 _) h;rw [q2] at hu;exact (hu.cons_ne n42).elim
 ·rw [if_neg l0] at h;by_cases k:c=1
  ·rw [if_pos k] at h;obtain ⟨d2,r2,e2,hd2⟩:=zEN l0 h1;by_cases l0':l'=[]
   ·rw [if_pos l0',e2,e'] at h;simp only [List.cons_append,qj] at h;rw [<- h.1,hd2] at hd'; cases hd'
   ·rw [if_neg l0'] at h;by_cases k':c'=1
    ·rw [if_pos k'] at h;obtain ⟨q1,q2⟩:=zZK hA l0 l0' h1 h2 hu hv h;exact ⟨by rw [q1,k,k'],q2⟩
    ·rw [if_neg k',e2,e'] at h;simp only [List.cons_append,qj] at h;rw [<- h.1,hd2] at hd'; cases hd'
  ·rw [if_neg k,List.append_assoc] at h;by_cases l0':l'=[]
   ·rw [if_pos l0'] at h;obtain ⟨q1,q2⟩:=zvB rc rc' (d42 _) (hv.noDig dg) h;rw [<- q2] at hv;exact (hv.cons_ne n42).elim
   ·rw [if_neg l0'] at h;by_cases k':c'=1
    ·rw [if_pos k'] at h;obtain ⟨d2,r2,e2,hd2⟩:=zEN l0' h2;rw [e,e2] at h;simp only [List.cons_append,qj] at h;rw [h.1,hd2] at hd; cases hd
    ·rw [if_neg k',List.append_assoc] at h;obtain ⟨q1,q2⟩:=zvB rc rc' (d42 _) (d42 _) h;simp only [List.cons_append,qj,true_and] at q2;obtain ⟨q3,q4⟩:=zZK hA l0 l0' h1 h2 hu hv q2;exact ⟨by rw [q1,q3],q4⟩
theorem z93 {V:yB->Bool} {t:Term} (ht:gT V t):∃ c r,txT t=c::r/\c≠48:=by
 obtain ⟨⟨c1,c2⟩,h1⟩:=ht;obtain ⟨d,r,e,hd,h48⟩:=z0m c1 c2;rw [z3G];by_cases l0:t.Fs=[]
 ·rw [if_pos l0]; exact ⟨d,r,e,h48⟩
 ·rw [if_neg l0];split
  ·obtain ⟨d2,r2,e2,hd2⟩:=zEN l0 h1;exact ⟨d2,r2,e2,λe=>by rw [e] at hd2; revert hd2; decide⟩
  ·exact ⟨d,_,by rw [e]; rfl,h48⟩
theorem zbc2 {V:yB->Bool} (hA:RdA V) {a b:yB} (ha:∀ t∈a,gT V t) (hb:∀ t∈b,gT V t) {u v:List UInt8} (hu:hd SN u) (hv:hd SN v) (h:txN a++u=txN b++v):a=b/\u=v:=by
 have en:∀ z:yB,z≠[]->txN z=zeY (z.map txT) [32,43,32]:=λz hz=>by
  unfold txN zPt; rw [zPG,if_neg (by simpa using hz)]
 have e0:txN []=[48]:=by unfold txN zPt; rw [zPp,if_pos rfl]
 have h48:∀ z:yB,z≠[]->(∀ t∈z,gT V t)->∃ c r,txN z=c::r/\c≠48:=λz hz hg=>by
  rw [en z hz];cases z with
  | nil=>exact absurd rfl hz
  | cons t r=>
   obtain ⟨c,s,e,hc⟩:=z93 (hg t (by simp))
   cases r with
   | nil=>exact ⟨c,s,by simp only [List.map,zeY]; exact e,hc⟩
   | cons t' r=>exact ⟨c,_,by simp only [List.map,zeY]; rw [e]; rfl,hc⟩
 by_cases a0:a=[]
 ·by_cases b0:b=[]
  ·rw [a0,b0] at h;exact ⟨by rw [a0,b0],List.append_cancel_left h⟩
  ·obtain ⟨c,r,e,hc⟩:=h48 b b0 hb;rw [a0,e0,e] at h;simp only [List.cons_append,qj] at h;exact absurd h.1.symm hc
 ·by_cases b0:b=[]
  ·obtain ⟨c,r,e,hc⟩:=h48 a a0 ha;rw [b0,e0,e] at h;simp only [List.cons_append,qj] at h;exact absurd h.1 hc
  ·rw [en a a0,en b b0] at h;exact zLN txT SN 32 [43,32] (gT V) (by decide) (λx y px py u v hu hv e=>zbci hA px py hu hv e) a b a0 b0 ha hb u v hu hv h
theorem z9q:∀ m,RdN (zbr m)/\RdA (zbr m):=by
 intro m;induction m with
 | zero=>
  have:RdN (zbr 0):=λa b ha=>by cases ha
  exact ⟨this,z7W this⟩
 | succ m ih=>
  have:RdN (zbr (m+1)):=λa b ha hb wa wb u v hu hv h=>by
   have key:∀ z,zbr (m+1) z=true->zg5 z->∀ t∈z,gT (zbr m) t:=λz hz wz t ht=>by
    obtain ⟨⟨c1,c2⟩,hok⟩:=zvt hz ht;have hwt:=zoC (zvJ (zs8 wz t ht)).2.1;exact ⟨⟨c1,by omega⟩,λf hf=>⟨(zpH hok hf).2,(zrm (hwt f hf)).1,zmI (zrm (hwt f hf)).2⟩⟩
   exact zbc2 ih.2 (key a ha wa) (key b hb wb) hu hv h
  exact ⟨this,z7W this⟩
theorem zbbs {m:Nat} {l l':yC} (h1:∀ f∈l,gF (zbr m) f) (h2:∀ f∈l',gF (zbr m) f) (h:txL l=txL l'):l=l':=by
 have e0:txL []=[]:=by unfold txL; rw [zKh]; rfl
 by_cases l0:l=[]
 ·by_cases l0':l'=[]
  ·rw [l0,l0']
  ·obtain ⟨c,r,e,_⟩:=zEN l0' h2;rw [l0,e0,e] at h; cases h
 ·by_cases l0':l'=[]
  ·obtain ⟨c,r,e,_⟩:=zEN l0 h1;rw [l0',e0,e] at h; cases h
  ·exact (zZK (z9q m).2 l0 l0' h1 h2 (u:=[]) (v:=[]) (λc hc=>by cases hc) (λc hc=>by cases hc) (by rw [h])).1
def ztE (a b:Int):Int:=if 1152921504606846976<a+b then 1152921504606846976 else a+b
def cT (x y:Term):Int:=zbA (zbo x.Fs) (zbo y.Fs)
theorem zOu {x y:Term} (h:cT x y=0):x.Fs=y.Fs:=zBc _ _ (zIO _ _ h)
theorem zzH {x y:Term} (h:x.Fs=y.Fs):cT x y=0:=by unfold cT; rw [h]; exact zTj _
def zhy (t:Term):yB->yB
 | []=>[t]
 | x::r=>if cT x t<0 then x::zhy t r else if cT x t=0 then ⟨ztE x.Cf t.Cf,t.Fs⟩::r else t::x::r
def znv (t:Term):yB->yB
 | []=>[t]
 | x::r=>if x.Fs=t.Fs then ⟨ztE x.Cf t.Cf,x.Fs⟩::r else x::znv t r
abbrev Srs (l:yB):Prop:=l.Pairwise λx y=>cT x y<0
abbrev Dst (l:yB):Prop:=l.Pairwise λx y=>x.Fs≠y.Fs
theorem Srs.dst {l:yB} (h:Srs l):Dst l:=h.imp λ{x y} hxy e=>by rw [zzH e] at hxy; omega
def SM (l:yB) (t y:Term):Prop:=(y∈l/\y.Fs≠t.Fs)\/(y.Fs=t.Fs/\((∃ x∈l,x.Fs=t.Fs/\y.Cf=ztE x.Cf t.Cf)\/((∀ x∈l,x.Fs≠t.Fs)/\y.Cf=t.Cf)))
theorem zZ0 {x y:Term} (h1:x.Cf=y.Cf) (h2:x.Fs=y.Fs):x=y:=by cases x; cases y; simp_all
theorem zJt {x y z:Term} (h1:cT x y<0) (h2:cT y z<0):cT x z<0:=z2e h1 h2
theorem zB0 (x y:Term):cT y x= - cT x y:=zFt _ _
theorem zZn {x t y:Term} {r:yB} (hx:x.Fs≠t.Fs) (hr:∀ z∈r,x.Fs≠z.Fs):SM (x::r) t y↔y=x\/SM r t y:=by
 unfold SM;constructor
 ·rintro (⟨h1,h2⟩ | ⟨h1,⟨z,hz,h2,h3⟩ | ⟨h2,h3⟩⟩)
  ·rcases qd.1 h1 with rfl | h1
   ·exact .inl rfl
   ·exact .inr (.inl ⟨h1,h2⟩)
  ·rcases qd.1 hz with rfl | hz
   ·exact absurd h2 hx
   ·exact .inr (.inr ⟨h1,.inl ⟨z,hz,h2,h3⟩⟩)
  ·exact .inr (.inr ⟨h1,.inr ⟨λz hz=>h2 z (by simp [hz]),h3⟩⟩)
 ·rintro (rfl | ⟨h1,h2⟩ | ⟨h1,⟨z,hz,h2,h3⟩ | ⟨h2,h3⟩⟩)
  ·exact .inl ⟨by simp,hx⟩
  ·exact .inl ⟨by simp [h1],h2⟩
  ·exact .inr ⟨h1,.inl ⟨z,by simp [hz],h2,h3⟩⟩
  ·exact .inr ⟨h1,.inr ⟨λz hz=>by
    rcases qd.1 hz with rfl | hz
    ·exact hx
    ·exact h2 z hz,h3⟩⟩
theorem z0k {t y:Term} {l:yB} (h:∀ z∈l,z.Fs≠t.Fs):SM l t y↔y=t\/y∈l:=by
 unfold SM;constructor
 ·rintro (⟨h1,h2⟩ | ⟨h1,⟨z,hz,h2,h3⟩ | ⟨h2,h3⟩⟩)
  ·exact .inr h1
  ·exact absurd h2 (h z hz)
  ·exact .inl (zZ0 h3 h1)
 ·rintro (rfl | h1)
  ·exact .inr ⟨rfl,.inr ⟨h,rfl⟩⟩
  ·exact .inl ⟨h1,h y h1⟩
theorem z8b {x t y:Term} {r:yB} (hx:x.Fs=t.Fs) (hr:∀ z∈r,z.Fs≠t.Fs):SM (x::r) t y↔y=⟨ztE x.Cf t.Cf,t.Fs⟩\/y∈r:=by
 unfold SM;constructor
 ·rintro (⟨h1,h2⟩ | ⟨h1,⟨z,hz,h2,h3⟩ | ⟨h2,h3⟩⟩)
  ·rcases qd.1 h1 with rfl | h1
   ·exact absurd hx h2
   ·exact .inr h1
  ·rcases qd.1 hz with rfl | hz
   ·exact .inl (zZ0 h3 h1)
   ·exact absurd h2 (hr z hz)
  ·exact absurd hx (h2 x (by simp))
 ·rintro (rfl | h1)
  ·exact .inr ⟨rfl,.inl ⟨x,by simp,hx,rfl⟩⟩
  ·exact .inl ⟨by simp [h1],hr y h1⟩
theorem zzz {t y:Term}:∀ {l:yB},Srs l->(y∈zhy t l↔SM l t y)
 | [],_=>by rw [z0k (by simp)]; simp [zhy]
 | x::r,h=>by
  have hc:=qi.1 h;have hd:=qi.1 h.dst;unfold zhy;by_cases h1:cT x t<0
  ·rw [if_pos h1,qd,zZn (λe=>by rw [zzH e] at h1; omega) hd.1,zzz hc.2]
  ·rw [if_neg h1];by_cases h2:cT x t=0
   ·rw [if_pos h2,List.mem_cons,z8b (zOu h2) λz hz e=>by
     have:=hc.1 z hz; rw [zzH ((zOu h2).trans e.symm)] at this; omega]
   ·rw [if_neg h2,z0k λz hz e=>by
     have a:=zB0 x t;rcases qd.1 hz with rfl | hz
     ·exact h2 (zzH e)
     ·have b:=zJt (show cT t x<0 by omega) (hc.1 z hz)
      rw [zzH e.symm] at b; omega]
    rw [qd]
theorem zZU {t y:Term}:∀ {l:yB},Dst l->(y∈znv t l↔SM l t y)
 | [],_=>by rw [z0k (by simp)]; simp [znv]
 | x::r,h=>by
  have hd:=qi.1 h;unfold znv;by_cases h2:x.Fs=t.Fs
  ·rw [if_pos h2,qd,z8b h2 λz hz e=>hd.1 z hz (h2.trans e.symm),h2]
  ·rw [if_neg h2,qd,zZn h2 hd.1,zZU hd.2]
theorem zzk {t:Term}:∀ {l:yB},Srs l->Srs (zhy t l)
 | [],_=>by simp [zhy]
 | x::r,h=>by
  have hc:=qi.1 h;unfold zhy;by_cases h1:cT x t<0
  ·rw [if_pos h1];refine qi.2 ⟨λz hz=> ?_,zzk hc.2⟩
   rcases (zzz hc.2).1 hz with ⟨h2,_⟩ | ⟨h2,_⟩
   ·exact hc.1 z h2
   ·have:cT x z=cT x t:=by unfold cT; rw [h2]
    rw [this]; exact h1
  ·rw [if_neg h1];by_cases h2:cT x t=0
   ·rw [if_pos h2];refine qi.2 ⟨λz hz=> ?_,hc.2⟩
    have:=hc.1 z hz;unfold cT at this ⊢;rw [<- zOu h2]; exact this
   ·rw [if_neg h2];have a:=zB0 x t;refine qi.2 ⟨λz hz=> ?_,h⟩
    rcases qd.1 hz with rfl | hz
    ·omega
    ·exact zJt (show cT t x<0 by omega) (hc.1 z hz)
theorem zZt {t:Term}:∀ {l:yB},Dst l->Dst (znv t l)
 | [],_=>by simp [znv]
 | x::r,h=>by
  have hc:=qi.1 h;unfold znv;by_cases h2:x.Fs=t.Fs
  ·rw [if_pos h2];exact qi.2 ⟨λz hz=>hc.1 z hz,hc.2⟩
  ·rw [if_neg h2];refine qi.2 ⟨λz hz=> ?_,zZt hc.2⟩
   rcases (zZU hc.2).1 hz with ⟨h3,_⟩ | ⟨h3,_⟩
   ·exact hc.1 z h3
   ·rw [h3]; exact h2
theorem Dst.nodup {l:yB} (h:Dst l):l.Nodup:=h.imp λ{x y} hxy e=>hxy (by rw [e])
theorem zbbd {l l':yB} (h:l.Perm l') (t y:Term):SM l t y↔SM l' t y:=by
 unfold SM;simp only [h.mem_iff]
theorem z8s {l l':yB} (t:Term) (h:l.Perm l') (hs:Srs l) (hd:Dst l'):(zhy t l).Perm (znv t l'):=
 (List.perm_ext_iff_of_nodup (zzk hs).dst.nodup (zZt hd).nodup).2 λy=>by rw [zzz hs,zZU hd,zbbd h]
def zcJ (a b:yB):yB:=b.foldl (λa t=>zhy t a) a
def zLz (ts:yB):yB:=ts.foldl (λa t=>znv t a) []
theorem zOg:∀ (b a:yB),Srs a->Srs (zcJ a b)
 | [],_,h=>h
 | t::r,a,h=>zOg r (zhy t a) (zzk h)
theorem z0L:∀ (ts l l':yB),l.Perm l'->Srs l->Dst l'->(zcJ l ts).Perm (ts.foldl (λa t=>znv t a) l')/\Dst (ts.foldl (λa t=>znv t a) l')
 | [],l,l',h,_,hd=>⟨h,hd⟩
 | t::r,l,l',h,hs,hd=>z0L r (zhy t l) (znv t l') (z8s t h hs hd) (zzk hs) (zZt hd)
theorem z2E {t:Term}:∀ {l:yB},(∀ x∈l,cT x t<0)->zhy t l=l++[t]
 | [],_=>rfl
 | x::r,h=>by
  unfold zhy;rw [if_pos (h x (by simp)),z2E λy hy=>h y (by simp [hy])]; rfl
theorem zZ6:∀ (r l:yB),Srs (l++r)->zcJ l r=l++r
 | [],l,_=>by simp [zcJ]
 | t::r,l,h=>by
  have e:zcJ l (t::r)=zcJ (zhy t l) r:=rfl;have hp:=List.pairwise_append.1 h;rw [e,z2E λx hx=>hp.2.2 x hx t (by simp),zZ6 r (l++[t]) (by simpa using h)]
  simp
theorem sum_nil {a:yB} (h:Srs a):zcJ [] a=a:=zZ6 a [] h
theorem zbbR (a b:yB) (h:Srs a):zcJ [] (a++b)=zcJ a b:=by
 show (a++b).foldl (λa t=>zhy t a) []=_
 rw [List.foldl_append];show zcJ (zcJ [] a) b=_;rw [sum_nil h]
theorem zIU {y:Term}:∀ (b a:yB),Srs a->y∈zcJ a b->∃ x,(x∈a\/x∈b)/\y.Fs=x.Fs
 | [],a,_,h=>⟨y,.inl h,rfl⟩
 | t::r,a,hs,h=>by
  obtain ⟨x,hx,e⟩:=zIU r (zhy t a) (zzk hs) h;rcases hx with hx | hx
  ·rcases (zzz hs).1 hx with ⟨h1,_⟩ | ⟨h1,_⟩
   ·exact ⟨x,.inl h1,e⟩
   ·exact ⟨t,.inr (by simp),e.trans h1⟩
  ·exact ⟨x,.inr (by simp [hx]),e⟩
theorem z0W {a b:Int} (ha:1<=a) (hb:1<=b):1<=ztE a b/\ztE a b<=1152921504606846976:=by
 unfold ztE;split
 ·omega
 ·omega
def cOK (t:Term):Prop:=1<=t.Cf/\t.Cf<=1152921504606846976
theorem z2r {t:Term} (ht:cOK t):∀ {l:yB},(∀ x∈l,cOK x)->∀ x∈zhy t l,cOK x
 | [],_,x,hx=>by simp only [zhy,qh] at hx; subst hx; exact ht
 | y::r,h,x,hx=>by
  unfold zhy at hx;split at hx
  ·rcases qd.1 hx with rfl | hx
   ·exact h _ (by simp)
   ·exact z2r ht (λz hz=>h z (by simp [hz])) x hx
  ·split at hx
   ·rcases qd.1 hx with rfl | hx
    ·exact z0W (h y (by simp)).1 ht.1
    ·exact h x (by simp [hx])
   ·rcases qd.1 hx with rfl | hx
    ·exact ht
    ·exact h x hx
theorem z6O:∀ (b:yB) {a:yB},(∀ x∈a,cOK x)->(∀ x∈b,cOK x)->∀ x∈zcJ a b,cOK x
 | [],a,ha,_=>ha
 | t::r,a,ha,hb=>z6O r (z2r (hb t (by simp)) ha) λx hx=>hb x (by simp [hx])
theorem zVi {t:Term}:∀ (l:yB),(zhy t l).length<=l.length+1
 | []=>by simp [zhy]
 | x::r=>by
  have:=zVi (t:=t) r;unfold zhy;split
  ·simp only [qf]; omega
  ·split <;>simp
theorem zIQ:∀ (b a:yB),(zcJ a b).length<=a.length+b.length
 | [],a=>by simp [zcJ]
 | t::r,a=>by
  have h1:=zIQ r (zhy t a);have h2:=zVi (t:=t) a;show (zcJ (zhy t a) r).length<=_;simp only [qf]; omega
def cF (x y:Fc):Int:=z8 (zd4 x.At) (zd4 y.At)
theorem z6b {x y:Fc} (h:cF x y=0):x.At=y.At:=zZh _ _ (zsQ _ _ h)
theorem zbbY (x y:Fc):cF y x= - cF x y:=zgm _ _
theorem z1R {a b c:TT} (h1:z8 a b<0) (h2:z8 b c<0):z8 a c<0:=by
 have h:=ztB a b c (by omega) (by omega)
 by_cases e:z8 a c=0
 ·have e':=zsQ a c e;subst e';have:=zgm a b;omega
 ·omega
theorem zEV {x y z:Fc} (h1:cF x y<0) (h2:cF y z<0):cF x z<0:=z1R h1 h2
abbrev Srf (l:yC):Prop:=l.Pairwise λx y=>cF x y<0
def zHw (f:Fc):yC->yC
 | []=>[f]
 | x::r=>if cF x f<0 then x::zHw f r else if cF x f=0 then (if f.At.Kind<3 then ⟨f.At,x.Exp+f.Exp⟩ else f)::r else f::x::r
def zbB:yC->yC->yC
 | [],b=>b
 | x::a,[]=>x::a
 | x::a,y::b=>if cF x y<0 then x::zbB a (y::b) else if 0<cF x y then y::zbB (x::a) b else (if x.At.Kind=3\/x.At.Kind=4 then x else ⟨x.At,x.Exp+y.Exp⟩)::zbB a b
termination_by a b=>a.length+b.length
theorem zL5 (a:yC):zbB a []=a:=by cases a <;>rw [zbB]
theorem zI4 {m:Fc} {L b:yC} (h:∀ z∈b,cF m z<0):zbB (m::L) b=m::zbB L b:=by
 cases b with
 | nil=>rw [zL5,zL5]
 | cons z b=>rw [zbB,if_pos (h z (by simp))]
def eOK (f:Fc):Prop:=(0<=f.At.Kind/\f.At.Kind<=4)/\(f.At.Kind=3\/f.At.Kind=4->f.Exp=1)
theorem z3R {y:Fc} {b:yC} (hb:∀ z∈b,cF y z<0) (hy:eOK y):∀ {a:yC},(∀ x∈a,eOK x)->zbB (zHw y a) b=zbB a (y::b)
 | [],_=>by
  rw [zHw,zI4 hb,zbB,zbB]
 | x::a,ha=>by
  unfold zHw;by_cases h1:cF x y<0
  ·rw [if_pos h1,zI4 λz hz=>zEV h1 (hb z hz),z3R hb hy λz hz=>ha z (by simp [hz]),zI4 (m:=x) (b:=y::b) λz hz=>by
    rcases qd.1 hz with rfl | hz
    ·exact h1
    ·exact zEV h1 (hb z hz)]
  ·rw [if_neg h1];by_cases h2:cF x y=0
   ·have ea:=z6b h2
    rw [if_pos h2,zI4 λz hz=>by
     have e:(if y.At.Kind<3 then (⟨y.At,x.Exp+y.Exp⟩:Fc) else y).At=y.At:=by split <;>rfl
     have:=hb z hz;unfold cF at this ⊢; rw [e]; exact this]
    rw [zbB,if_neg h1,if_neg (show ¬ 0<cF x y by omega)]
    congr 1;have hx:=ha x (by simp)
    obtain ⟨xa,xe⟩:=x;obtain ⟨ya,ye⟩:=y;simp only at ea;subst ea;obtain ⟨⟨k0,k4⟩,h3⟩:=hx;obtain ⟨_,h3'⟩:=hy;simp only at k0 k4 h3 h3' ⊢;by_cases hk:xa.Kind<3
    ·rw [if_pos hk,if_neg (by omega)]
    ·have hk':xa.Kind=3\/xa.Kind=4:=by omega
     rw [if_neg hk,if_pos hk',h3 hk',h3' hk']
   ·rw [if_neg h2,zI4 hb];rw [zbB,if_neg h1,if_pos (by omega)]
theorem zQA:∀ (b a:yC),Srf b->(∀ x∈a,eOK x)->(∀ x∈b,eOK x)->b.foldl (λl f=>zHw f l) a=zbB a b
 | [],a,_,_,_=>by rw [zL5]; rfl
 | y::b,a,hs,ha,hb=>by
  have hc:=qi.1 hs;have hy:=hb y (by simp)
  rw [List.foldl_cons,zQA b (zHw y a) hc.2 (λx hx=> ?_) λx hx=>hb x (by simp [hx]),z3R hc.1 hy ha]
  -- kinds and exponents are kept
  clear hs hc hb;induction a with
  | nil=>simp only [zHw,qh] at hx; subst hx; exact hy
  | cons z r ih=>
   unfold zHw at hx;split at hx
   ·rcases qd.1 hx with rfl | hx
    ·exact ha _ (by simp)
    ·exact ih (λw hw=>ha w (by simp [hw])) hx
   ·split at hx
    ·rcases qd.1 hx with rfl | hx
     ·split
      ·rename_i hk; exact ⟨hy.1,λh=>by simp only at h; omega⟩
      ·exact hy
     ·exact ha x (by simp [hx])
    ·rcases qd.1 hx with rfl | hx
     ·exact hy
     ·exact ha x hx
theorem ztP {x:Fc}:∀ {a b:yC},x∈zbB a b->∃ y,(y∈a\/y∈b)/\x.At=y.At
 | [],b,h=>⟨x,.inr (by rwa [zbB] at h),rfl⟩
 | y::a,[],h=>⟨x,.inl (by rwa [zbB] at h),rfl⟩
 | y::a,z::b,h=>by
  rw [zbB] at h;split at h
  ·rcases qd.1 h with rfl | h
   ·exact ⟨x,.inl (by simp),rfl⟩
   ·obtain ⟨w,hw,e⟩:=ztP h;rcases hw with hw | hw
    ·exact ⟨w,.inl (by simp [hw]),e⟩
    ·exact ⟨w,.inr hw,e⟩
  ·split at h
   ·rcases qd.1 h with rfl | h
    ·exact ⟨x,.inr (by simp),rfl⟩
    ·obtain ⟨w,hw,e⟩:=ztP h;rcases hw with hw | hw
     ·exact ⟨w,.inl hw,e⟩
     ·exact ⟨w,.inr (by simp [hw]),e⟩
   ·rcases qd.1 h with rfl | h
    ·exact ⟨y,.inl (by simp),by split <;>rfl⟩
    ·obtain ⟨w,hw,e⟩:=ztP h;rcases hw with hw | hw
     ·exact ⟨w,.inl (by simp [hw]),e⟩
     ·exact ⟨w,.inr (by simp [hw]),e⟩
termination_by a b=>a.length+b.length
theorem zKI:∀ (a b:yC),(zbB a b).length<=a.length+b.length
 | [],b=>by rw [zbB]; simp
 | y::a,[]=>by rw [zbB]; simp
 | y::a,z::b=>by
  rw [zbB];split
  ·have:=zKI a (z::b); simp only [qf] at this ⊢; omega
  ·split
   ·have:=zKI (y::a) b; simp only [qf] at this ⊢; omega
   ·have:=zKI a b; simp only [qf] at this ⊢; omega
termination_by a b=>a.length+b.length
theorem zKj {x:Fc} {B:Int}:∀ {a b:yC},(∀ y∈a,1<=y.Exp/\y.Exp<=B)->(∀ y∈b,1<=y.Exp/\y.Exp<=B)->x∈zbB a b->1<=x.Exp/\x.Exp<=2*B
 | [],b,ha,hb,h=>by rw [zbB] at h; have:=hb x h; omega
 | y::a,[],ha,hb,h=>by rw [zbB] at h; have:=ha x h; omega
 | y::a,z::b,ha,hb,h=>by
  have hy:=ha y (by simp)
  have hz:=hb z (by simp)
  rw [zbB] at h;split at h
  ·rcases qd.1 h with rfl | h
   ·omega
   ·exact zKj (λw hw=>ha w (by simp [hw])) hb h
  ·split at h
   ·rcases qd.1 h with rfl | h
    ·omega
    ·exact zKj ha (λw hw=>hb w (by simp [hw])) h
   ·rcases qd.1 h with rfl | h
    ·split
     ·omega
     ·simp only; omega
    ·exact zKj (λw hw=>ha w (by simp [hw])) (λw hw=>hb w (by simp [hw])) h
termination_by a b=>a.length+b.length
def zzg (a b:Int):Int:=if Int.tdiv 1152921504606846976 b<a then 1152921504606846976 else a*b
def zl3 (x y:Term):Term:=⟨zzg x.Cf y.Cf,zbB x.Fs y.Fs⟩
def zgj (a b:yB):yB:=a.flatMap λx=>b.map (zl3 x)
def zuo (a b:yB):yB:=zcJ [] (zgj a b)
theorem zYw {a b:Int} (ha:1<=a/\a<=1152921504606846976) (hb:1<=b/\b<=1152921504606846976):(1<=zzg a b/\zzg a b<=1152921504606846976)/\(¬ Int.tdiv 1152921504606846976 b<a->a*b<=1152921504606846976):=by
 have h1:¬ Int.tdiv 1152921504606846976 b<a->a*b<=1152921504606846976:=λh=>by
  rw [Int.tdiv_eq_ediv_of_nonneg (by omega)] at h
  have h2:a<=1152921504606846976 / b:=by omega
  exact (Int.le_ediv_iff_mul_le (by omega)).1 h2
 refine ⟨?_,h1⟩;unfold zzg;split
 ·omega
 ·rename_i h;refine ⟨?_,h1 h⟩;have:=Int.mul_le_mul ha.1 hb.1 (by omega) (by omega)
  omega
theorem z0Y {t:Term} {a b:yB} (h:t∈zgj a b):∃ x∈a,∃ y∈b,t=zl3 x y:=by
 obtain ⟨x,hx,ht⟩:=List.mem_flatMap.1 h;obtain ⟨y,hy,rfl⟩:=List.mem_map.1 ht;exact ⟨x,hx,y,hy,rfl⟩
theorem zUI (a b:yB):(zgj a b).length=a.length*b.length:=by
 unfold zgj;induction a with
 | nil=>simp
 | cons x r ih=>rw [List.flatMap_cons,qg,ih,List.length_map,qf,Nat.add_mul]; omega
section
variable (g:yB->Bool×yB)
theorem zbdB (l:yA) (hl:l.length<=1000000) (hg:∀ a∈l,g a=(true,a)) (n:Nat) (hn:l.length<n) (x0 x1 x2 x3:Int) (x4:yD) (x5 x6 x7:Int) (x8:ByteArray) (t0 t1 t2 t3 t4 t5 t6:Int) (t7:ByteArray):
  zwk g n l.length 0 x0 x1 x2 x3 x4 x5 x6 x7 x8 t0 t1 t2 t3 t4 t5 t6 t7 l=(true,(x0,x1,x2,x3,x4,x5,x6,x7,x8,t0,t1,t2,t3,t4,t5,t6,t7,l)):=by
 have:=zcA (W:=zoJ g) (z:=default) l.length (λi=>((),(),(l.length:Int),(i:Int),())) (λ_=>((x0,x1,x2,(),x3,x4,x5,x6,x7,x8,()),(t0,t1,t2,(),t3,(),t4,t5,t6,t7,()),l,())) (λ_=>true) default (x0,x1,x2,x3,x4,x5,x6,x7,x8,t0,t1,t2,t3,t4,t5,t6,t7,l)
  (λi hi H K D=>by
   show (zgT g l.length i x0 x1 x2 x3 x4 x5 x6 x7 x8 t0 t1 t2 t3 t4 t5 t6 t7 l).ev H K D=_;unfold zgT;simp only [Wy.ev_i,Wy.ev_k,Wy.ev_h,Wy.ev_bn,Wy.ev_d,tT,hi,hg _ (zl hi)];rw [zB (by omega),zW6 hi])
  (λH K D=>by
   show (zgT g l.length l.length x0 x1 x2 x3 x4 x5 x6 x7 x8 t0 t1 t2 t3 t4 t5 t6 t7 l).ev H K D=_;unfold zgT;simp only [Wy.ev_i,Wy.ev_k,tT,Nat.lt_irrefl]) n hn
 rw [show zeb (λ_=>true) l.length 0=true from zdB.2 λ_ _ _=>rfl] at this
 exact this
theorem zbdJ (l:yD) (hl:l.length<=1000000) (hg:∀ a∈l,g a.Ann=(true,a.Ann)) (n:Nat) (hn:l.length<n) (x0 x1 x2 x3 x4 x5 x6:Int) (x7:ByteArray) (t0 t1 t2 t3 t4 t5 t6:Int) (t7:ByteArray) (b2:yA):
  zwV g n l.length 0 x0 x1 x2 x3 x4 x5 x6 x7 t0 t1 t2 t3 t4 t5 t6 t7 b2 l=(true,(x0,x1,x2,x3,x4,x5,x6,x7,t0,t1,t2,t3,t4,t5,t6,t7,b2,l)):=by
 have:=zcA (W:=zoT g) (z:=default) l.length (λi=>((),(),(l.length:Int),(i:Int),())) (λ_=>((x0,x1,x2,(),x3,(),x4,x5,x6,x7,()),(t0,t1,t2,(),t3,(),t4,t5,t6,t7,()),b2,l,())) (λ_=>true) default (x0,x1,x2,x3,x4,x5,x6,x7,t0,t1,t2,t3,t4,t5,t6,t7,b2,l)
  (λi hi H K D=>by
   show (zgX g l.length i x0 x1 x2 x3 x4 x5 x6 x7 t0 t1 t2 t3 t4 t5 t6 t7 b2 l).ev H K D=_;unfold zgX;simp only [Wy.ev_i,Wy.ev_k,Wy.ev_h,Wy.ev_bn,Wy.ev_d,tT,hi,hg _ (zl hi)];have:l.set i (⟨(l.getD i default).Value,(l.getD i default).Ann⟩:Wd)=l:=zW6 hi;rw [zB (by omega),this])
  (λH K D=>by
   show (zgX g l.length l.length x0 x1 x2 x3 x4 x5 x6 x7 t0 t1 t2 t3 t4 t5 t6 t7 b2 l).ev H K D=_;unfold zgX;simp only [Wy.ev_i,Wy.ev_k,tT,Nat.lt_irrefl]) n hn
 rw [show zeb (λ_=>true) l.length 0=true from zdB.2 λ_ _ _=>rfl] at this
 exact this
theorem zYM (x:At) (h1:x.Ag.length<=1000000) (h2:x.Items.length<=1000000) (hg:∀ a∈x.Ag,g a=(true,a)) (hgi:∀ w∈x.Items,g w.Ann=(true,w.Ann)):zjv g x=(true,x):=by
 have hreach:zG=70368744177664:=rfl;unfold zjv zxS zdW zeE
 have e1:∀ k:Nat,k<=1000->decide (x.Ag.length*k<=zG)=true:=λk hk=>by
  have:=Nat.mul_le_mul h1 hk;simp only [qe]; omega
 have e2:∀ k:Nat,k<=1000->decide (x.Items.length*k<=zG)=true:=λk hk=>by
  have:=Nat.mul_le_mul h2 hk;simp only [qe]; omega
 simp only [Wy.fin_bn,Wy.fin_k,e1 _ (by omega:24<=1000),e2 _ (by omega:56<=1000),Int.ofNat_eq_natCast,cond_true]
 rw [zbdB g _ h1 hg _ (by omega)]
 simp only [cond_true,e2 _ (by omega:56<=1000)]
 rw [zbdJ g _ h2 hgi _ (by omega)]
 simp only [cond_true];cases x; rfl
theorem z48 (gx:At->Bool×At) (a:yB) (hl:a.length<=1000000) (hg:∀ t∈a,t.Fs.length<=1000000/\∀ f∈t.Fs,gx f.At=(true,f.At)):zmk gx a=(true,a):=by
 unfold zmk zBR;have:=zbei gx a hl hg (a.length+(Int.ofNat a.length).toNat +Int.toNat (0:Int)+(0:Nat)+(1:Nat)) (by omega)
 rw [show Int.ofNat a.length=(a.length:Int) from rfl] at *
 rw [Wy.fin_bn,this]; rfl
end
theorem zYc:∀ n,
  (∀ d a,zo d a->2*d<=n->zmi n a=(true,a))/\
  (∀ d x,zdb (zo d) x->2*d+1<=n->zl2 n x=(true,x))
 | 0=>by
  refine ⟨λd a h hd=> ?_,λd x h hd=>by omega⟩
  have:d=0:=by omega
  subst this; exact h.elim
 | n+1=>by
  obtain ⟨h1,h2⟩:=zYc n;refine ⟨λd a h hd=> ?_,λd x h hd=> ?_⟩
  ·cases d with
   | zero=>exact h.elim
   | succ d=>
    rw [zMQ];exact z48 _ a h.1 λt ht=>⟨(h.2 t ht).1,λf hf=>h2 d _ ((h.2 t ht).2 f hf) (by omega)⟩
  ·rw [zG6];exact zYM _ x h.1.1 h.1.2.1 (λa ha=>h1 d a (h.2.1 a ha) (by omega)) λw hw=>h1 d _ (h.2.2 w hw).2 (by omega)
theorem zFu {d:Nat} {a:yB} (h:zo d a) (hd:d<=100):zho a=(true,a):=(zYc 1000).1 d a h (by omega)
def zmu (a:yB):yB×Int:=bif zfx a then (a,0) else ([],6)
theorem zzB {d:Nat} {a:yB} (h:zo d a) (hd:d<=100) (hs:zM a<=4611686018427387904):zeA a=(true,zmu a):=by
 unfold zeA zC2 zmu;simp only [Wy.fin_bn,Wy.fin_i,Wy.fin_k,z0N h hd hs,zFu h hd,cond_true];cases zfx a <;>rfl
theorem zOW {d:Nat} {a:yB} (h:zo d a) (hd:d<=100) (hs:zM a<=4611686018427387904):ztx a=(true,zmu a):=by
 unfold ztx zV3 zmu;simp only [Wy.fin_bn,Wy.fin_i,Wy.fin_k,z5d h hd hs,cond_true];cases zfx a <;>rfl
def zcW (x:At):yB:=[⟨1,[⟨x,1⟩]⟩]
theorem zF7 (x:At):(zfL x).2=zcW x:=by
 unfold zfL zEa;rw [At.eta]; rfl
theorem zNA (x:At):(zmY x).2=zcW x:=by
 unfold zmY zS4;rw [At.eta]; rfl
theorem zTL {d:Nat} {x:At} (h:zdb (zo d) x):zo (d+1) (zcW x):=by
 refine ⟨by simp [zcW],λt ht=> ?_⟩
 simp only [zcW,qh] at ht;subst ht;refine ⟨by simp,λf hf=> ?_⟩
 simp only [qh] at hf;subst hf; exact h
theorem zXh (x:At):zM (zcW x)=2+zfq x:=by
 rw [zcW,zgb,zv6,zc5,zjf];simp only [List.length_singleton]; omega
abbrev zOm:=yD×Unit×Int×Int×Unit
abbrev zzm:=yD×Unit
abbrev z0j:=yD×Int×Int×yD
abbrev zN1:=yD×Unit×Int×Unit
def zuQ (l:yD) (i:Int) (k:Int) (out_:yD):Wy zOm zzm z0j:=.i (decide (k<Int.ofNat out_.length)) (.i (decide (0<=k)&&decide (k<=IntKind.i64.wrap (k+1))&&decide (IntKind.i64.wrap (k+1)<=Int.ofNat out_.length)) (.i (decide (0<=i)&&decide (i<=IntKind.i64.wrap (i+1))&&decide (IntKind.i64.wrap (i+1)<=Int.ofNat l.length)) (.bn (zyD (List.take ((IntKind.i64.wrap (k+1)).toNat - k.toNat) (List.drop k.toNat out_)) (List.take ((IntKind.i64.wrap (i+1)).toNat - i.toNat) (List.drop i.toNat l))) λr0=>.i (decide (r0<=0)) (.h (l,(),i,(IntKind.i64.wrap (k+1)),()) (out_,())) (.k (l,i,k,out_))) .d) .d) (.k (l,i,k,out_))
def zN8 (x:zOm) (y:zzm):=zuQ x.1 x.2.2.1 x.2.2.2.1 y.1
def zN6 (n:Nat) (l:yD) (i:Int) (k:Int) (out_:yD):=zA (zN8) default n (l,(),i,k,()) (out_,())
def zut (l:yD) (i:Int) (out_:yD):Wy zN1 zzm (yD):=.i (decide (i<Int.ofNat l.length)) (.i (decide (0<=i)&&decide (i<Int.ofNat l.length)) (.i (Int.ofNat (l.getD i.toNat default).Ann.length==0) (.h (l,(),(IntKind.i64.wrap (i+1)),()) (out_,())) (.bn (zN6 (l.length+i.toNat +Int.toNat 0+out_.length+1) l i 0 out_) λr2=>.i (decide ((0:Int)<=(0:Int))&&decide (0<=r2.2.2.1)&&decide (r2.2.2.1<=Int.ofNat r2.2.2.2.length)) (.i (decide ((0+(List.take (r2.2.2.1.toNat - Int.toNat 0) (List.drop (Int.toNat 0) r2.2.2.2)).length)*56<=zG)) (.i (decide (0<=r2.2.1)&&decide (r2.2.1<Int.ofNat r2.1.length)) (.i (decide ((([]++List.take (r2.2.2.1.toNat - Int.toNat 0) (List.drop (Int.toNat 0) r2.2.2.2)).length+[r2.1.getD r2.2.1.toNat default].length)*56<=zG)) (.i (decide (0<=r2.2.2.1)&&decide (r2.2.2.1<=Int.ofNat r2.2.2.2.length)&&decide (Int.ofNat r2.2.2.2.length<=Int.ofNat r2.2.2.2.length)) (.i (decide ((([]++List.take (r2.2.2.1.toNat - Int.toNat 0) (List.drop (Int.toNat 0) r2.2.2.2)++[r2.1.getD r2.2.1.toNat default]).length+(List.take ((Int.ofNat r2.2.2.2.length).toNat - r2.2.2.1.toNat) (List.drop r2.2.2.1.toNat r2.2.2.2)).length)*56<=zG)) (.h ((r2.1),(),(IntKind.i64.wrap (r2.2.1+1)),()) (([]++List.take (r2.2.2.1.toNat - Int.toNat 0) (List.drop (Int.toNat 0) r2.2.2.2)++[r2.1.getD r2.2.1.toNat default]++List.take ((Int.ofNat r2.2.2.2.length).toNat - r2.2.2.1.toNat) (List.drop r2.2.2.1.toNat r2.2.2.2)),())) .d) .d) .d) .d) .d) .d)) .d) (.k out_)
def zN9 (x:zN1) (y:zzm):=zut x.1 x.2.2.1 y.1
def zOz (n:Nat) (l:yD) (i:Int) (out_:yD):=zA (zN9) default n (l,(),i,()) (out_,())
def zRJ (l:yD):Wy0 (yD):=.bn (zOz (l.length+Int.toNat 0+0+1) l 0 []) λr4=>.k r4
def zMn (l:yD):=(zRJ l).fin default
def zL2 (op:Int) (sign:Int):Wy0 (Bool):=.i (op==5) (.k (sign==0)) (.i (op==6) (.k (sign != 0)) (.i (op==7) (.k (decide (sign<0))) (.i (op==8) (.k (decide (sign<=0))) (.i (op==9) (.k (decide (sign>0))) (.i (op==10) (.k (decide (sign≥0))) (.k false))))))
def zGK (op:Int) (sign:Int):=(zL2 op sign).fin default
abbrev zRu:=Int×yD×Int×Unit×Int×Unit
abbrev z16:=Int⊕(Int×yD×Int×Value)
def zwy (fn:Int) (items:yD) (op:Int) (i:Int) (bound:Value):Wy zRu (Value×Unit) z16:=.i (decide (i<Int.ofNat items.length)) (.i (decide (0<=i)&&decide (i<Int.ofNat items.length)) (.bn (zkd (items.getD i.toNat default).Ann) λr0=>.i (!r0) (.k (.inl 1)) (.h (fn,items,op,(),(IntKind.i64.wrap (i+1)),()) (bound,()))) .d) (.k (.inr (fn,items,op,bound)))
def zRj (x:zRu) (y:Value×Unit):=zwy x.1 x.2.1 x.2.2.1 x.2.2.2.2.1 y.1
def zRA (n:Nat) (fn:Int) (items:yD) (op:Int) (i:Int) (bound:Value):=zA (zRj) (.inl default) n (fn,items,op,(),i,()) (bound,())
def zTO (fn:Int) (items:yD) (op:Int) (bound:Value):Wy0 (yB×Int):=.bn (zFa fn items op bound) λr7=>.i (!r7) (.k ([],1)) (.bn (zRA (fn.toNat +items.length+op.toNat +Int.toNat 0+1) fn items op 0 bound) λr6=>.i (isL r6) (.k ([],getL r6)) (.bn (zMn (getR r6).2.1) λr5=>.i (Int.ofNat r5.length==0) (.i ((getR r6).1==0) (.bn (zdo 0 (getR r6).2.2.2.Int) λr3=>.bn (zGK (getR r6).2.2.1 r3) λr2=>.i (r2) (.k (zUR.2,0)) (.k ([],0))) (.k ([],0))) (.bn (ztx (zmY (At.mk 4 (RowID.mk 0 0) [] (getR r6).1 r5 (getR r6).2.2.1 (getR r6).2.2.2)).2) λr4=>.k (r4.1,r4.2))))
def zQs (fn:Int) (items:yD) (op:Int) (bound:Value):=(zTO fn items op bound).fin default
section
variable {α β ρ τ:Type} [Inhabited τ]
theorem zVl (p:τ->Bool):∀ l:List τ,l.take (l.takeWhile p).length=l.takeWhile p
 | []=>rfl
 | x::r=>by
  rw [List.takeWhile_cons];cases p x with
  | true=>simp [zVl p r]
  | false=>simp
theorem zVb (p:τ->Bool):∀ l:List τ,l.drop (l.takeWhile p).length=l.dropWhile p
 | []=>rfl
 | x::r=>by
  rw [List.takeWhile_cons,List.dropWhile_cons];cases p x with
  | true=>simp [zVb p r]
  | false=>simp
theorem zbdQ (p:τ->Bool) (l:List τ):(l.takeWhile p).length<=l.length:=(List.takeWhile_prefix p).length_le
theorem z0J {W:α->β->Wy α β ρ} {z:ρ} (l:List τ) (p:τ->Bool) (ex:Nat->α) (ey:Nat->β) (res:Nat->ρ)
  (h:∀ i,i<l.length->∀ (H:α->β->Bool×ρ) K D,(W (ex i) (ey i)).ev H K D=bif p (l.getD i default) then H (ex (i+1)) (ey (i+1)) else K (res i))
  (he:∀ (H:α->β->Bool×ρ) K D,(W (ex l.length) (ey l.length)).ev H K D=K (res l.length)):
  ∀ n i,l.length<i+n->i<=l.length->zA W z n (ex i) (ey i)=(true,res (i+((l.drop i).takeWhile p).length))
 | 0,i,h1,h2=>by omega
 | n+1,i,h1,h2=>by
  show (W (ex i) (ey i)).ev (zA W z n) (λr=>(true,r)) (false,z)=_
  by_cases hi:i<l.length
  ·rw [h i hi,zbl hi,List.takeWhile_cons];cases hp:p (l.getD i default) with
   | false=>simp
   | true=>
    rw [cond_true,z0J l p ex ey res h he n (i+1) (by omega) (by omega)]
    simp only [if_true,qf];congr 2; omega
  ·have:i=l.length:=by omega
   subst this;rw [he,zdc hi]; rfl
theorem zPz {W:α->β->Wy α β ρ} {z:ρ} (l:List τ) (p:τ->Bool) (ex:Nat->α) (ey:Nat->β) (res:Nat->ρ)
  (h:∀ i,i<l.length->∀ (H:α->β->Bool×ρ) K D,(W (ex i) (ey i)).ev H K D=bif p (l.getD i default) then H (ex (i+1)) (ey (i+1)) else K (res i))
  (he:∀ (H:α->β->Bool×ρ) K D,(W (ex l.length) (ey l.length)).ev H K D=K (res l.length)) (n:Nat) (hn:l.length<n):
  zA W z n (ex 0) (ey 0)=(true,res (l.takeWhile p).length):=by
 have:=z0J (z:=z) l p ex ey res h he n 0 (by omega) (by omega)
 simpa using this
def zQW (p:τ->Bool) (x:τ) (l:List τ):List τ:=l.takeWhile p++x::l.dropWhile p
theorem z0M (p:τ->Bool) (x y:τ) (r:List τ):zQW p x (y::r)=bif p y then y::zQW p x r else x::y::r:=by
 unfold zQW;rw [List.takeWhile_cons,List.dropWhile_cons];cases p y <;>simp
theorem zFU (p:τ->Bool) (x:τ):∀ l:List τ,(zQW p x l).Perm (x::l)
 | []=>.refl _
 | y::r=>by
  rw [z0M];cases p y
  ·exact .refl _
  ·exact ((zFU p x r).cons y).trans (.swap x y r)
abbrev Srt (key:τ->TT) (l:List τ):Prop:=l.Pairwise λx y=>z8 (key x) (key y)<=0
theorem z3Y (key:τ->TT) (x:τ):∀ l:List τ,Srt key l->Srt key (zQW (λy=>decide (z8 (key y) (key x)<=0)) x l)
 | [],_=>by simp [zQW]
 | y::r,h=>by
  have h:=qi.1 h;rw [z0M];by_cases hp:z8 (key y) (key x)<=0
  ·rw [decide_eq_true hp];refine qi.2 ⟨λz hz=> ?_,z3Y key x r h.2⟩
   rcases qd.1 ((zFU _ x r).mem_iff.1 hz) with rfl | hz
   ·exact hp
   ·exact h.1 z hz
  ·rw [decide_eq_false hp];have hxy:z8 (key x) (key y)<=0:=by have:=zgm (key x) (key y); omega
   refine qi.2 ⟨λz hz=> ?_,qi.2 h⟩
   rcases qd.1 hz with rfl | hz
   ·exact hxy
   ·exact ztB _ _ _ hxy (h.1 z hz)
end
theorem z0H {τ:Type} (l:List τ) (k:Nat):List.take (k - Int.toNat 0) (List.drop (Int.toNat 0) l)=l.take k:=by simp
theorem zBU {τ:Type} (l:List τ) (k:Nat):List.take ((Int.ofNat l.length).toNat - k) (List.drop k l)=l.drop k:=by
 simp only [Int.ofNat_eq_natCast,Int.toNat_natCast];rw [List.take_of_length_le (by simp)]
theorem z3O (n:Nat):(n==0)= !decide (0<n):=by cases n <;>simp
def zmG (w:Wd):Bool:=decide (0<w.Ann.length)
def zd9 (l:yD):yD:=zod zX (l.filter zmG)
theorem zJm {d:Nat} {l:yD} (hl:l.length<=1000000) (h:∀ w∈l,zo d w.Ann) (hd:d<=99):SortOK zX l:=by
 have e:∀ x∈l,∀ y,zX x y=(true,z8 (z7 x) (z7 y)):=λx hx y=>zkn (h x hx) hd y
 refine ⟨by omega,λx hx y _=>by rw [e x hx],λx hx=> ?_,λx hx y hy z hz h1 h2=> ?_,λx hx y hy z hz h1 h2=> ?_,λx hx y hy h1 h2=> ?_⟩
 ·rw [e x hx,zBN]; omega
 ·rw [e x hx] at h1 ⊢; rw [e y hy] at h2;have h3:=ztB _ _ _ (show z8 (z7 x) (z7 y)<=0 by simp only at h1; omega) (show z8 (z7 y) (z7 z)<=0 by simp only at h2; omega)
  simp only at h1 h2 ⊢;by_cases e0:z8 (z7 x) (z7 z)=0
  ·have:=zsQ _ _ e0;rw [<- this,zgm (z7 x) (z7 y)] at h2;omega
  ·omega
 ·rw [e x hx] at h1 ⊢; rw [e y hy] at h2;simp only at h1 h2 ⊢;have a1:=zgm (z7 x) (z7 y);have a2:=zgm (z7 y) (z7 z);have a3:=zgm (z7 x) (z7 z);have:=ztB (z7 z) (z7 y) (z7 x) (by omega) (by omega)
  omega
 ·rw [e x hx] at h1; rw [e y hy] at h2;simp only at h1 h2;have a1:=zgm (z7 x) (z7 y);exact zYs _ _ (zsQ _ _ (by omega))
theorem zba0 {d:Nat} (l:yD) (hl:l.length<=1000000) (h:∀ w∈l,zo d w.Ann) (hd:d<=99) (n:Nat) (hn:l.length<n):zEb n l l.length 0 []=(true,l.filter zmG):=by
 have hreach:zG=70368744177664:=rfl;have hfl:∀ i,(List.filter zmG (l.take i)).length<=1000000:=λi=>Nat.le_trans (List.length_filter_le _ _) (Nat.le_trans (by simp; omega) hl)
 have:=zcA (W:=zxw) (z:=default) l.length (λi=>((),l,(l.length:Int),(i:Int),())) (λi=>((l.take i).filter zmG,())) (λ_=>true) default (l.filter zmG)
  (λi hi H K D=>by
   show (zmn l l.length i ((l.take i).filter zmG)).ev H K D=_;unfold zmn;have hb2:decide (((List.filter zmG (l.take i)).length+1)*56<=zG)=true:=by have:=hfl i; simp only [qe]; omega
   have hgt:decide (((l.getD i default).Ann.length:Int)>0)=zmG (l.getD i default):=zly _ 0;simp only [Wy.ev_i,Wy.ev_k,Wy.ev_h,Wy.ev_bn,Wy.ev_d,tT,hi,zFu (h _ (zl hi)) (by omega:d<=100),hgt,List.length_singleton,hb2]
   rw [zB (by omega),zha hi,List.filter_append,List.filter_cons]
   cases zmG (l.getD i default) with
   | true=>simp
   | false=>simp)
  (λH K D=>by
   show (zmn l l.length l.length ((l.take l.length).filter zmG)).ev H K D=_;unfold zmn;simp only [Wy.ev_i,Wy.ev_k,tT,Nat.lt_irrefl,List.take_length]) n hn
 rw [show zeb (λ_=>true) l.length 0=true from zdB.2 λ_ _ _=>rfl] at this
 exact this
theorem z4c {d:Nat} {l:yD} (h:∀ w∈l,zo d w.Ann) (hd:d<=99) (h20:l.length<20):zZ l=(true,zod zX l):=by
 have ok:SortOK zX l:=zJm (d:=d) (by omega) h hd
 unfold zZ;simp only [decide_eq_true ok,decide_eq_true h20,Bool.and_self]
theorem z9X {d:Nat} (l:yD) (hl:l.length<=1000000) (h:∀ w∈l,zo d w.Ann) (hd:d<=99) (h20:(l.filter zmG).length<20):zrA l=(true,zd9 l):=by
 unfold zrA zGn zd9;have:=zba0 l hl h hd (l.length+(Int.ofNat l.length).toNat +Int.toNat (0:Int)+(0:Nat)+(1:Nat)) (by omega)
 rw [show Int.ofNat l.length=(l.length:Int) from rfl] at *
 rw [Wy.fin_bn,this];simp only [Wy.fin_bn,Wy.fin_k,cond_true,z4c (λw hw=>h w (List.mem_filter.1 hw).1) hd h20]
def zxY (w:Wd) (out:yD):yD:=bif zmG w then zQW (λy=>decide (z8 (z7 y) (z7 w)<=0)) w out else out
theorem z8U {d:Nat} (l:yD) (i:Nat) (hi:i<l.length) (hl:l.length<=1000000) (out:yD) (ho:out.length<=1000000) (h:∀ w∈out,zo d w.Ann) (hd:d<=99) (n:Nat) (hn:out.length<n):
  zN6 n l i 0 out=(true,(l,(i:Int),(((out.takeWhile λy=>decide (z8 (z7 y) (z7 (l.getD i default))<=0)).length:Nat):Int),out)):=by
 exact zPz (W:=zN8) (z:=default) out (λy=>decide (z8 (z7 y) (z7 (l.getD i default))<=0)) (λk=>(l,(),(i:Int),(k:Int),())) (λ_=>(out,())) (λk=>(l,(i:Int),(k:Int),out))
  (λk hk H K D=>by
   show (zuQ l i k out).ev H K D=_;unfold zuQ;have e1:(decide ((k:Int)<=((k+1:Nat):Int))&&decide (((k+1:Nat):Int)<=Int.ofNat out.length))=true:=by simp; try omega
   have e2:(decide ((i:Int)<=((i+1:Nat):Int))&&decide (((i+1:Nat):Int)<=Int.ofNat l.length))=true:=by simp; try omega
   have e3:decide ((k:Int)<Int.ofNat out.length)=true:=by simp [hk]
   simp only [Wy.ev_i,Wy.ev_k,Wy.ev_h,Wy.ev_bn,Wy.ev_d,zB (show k<4611686018427387904 by omega),zB (show i<4611686018427387904 by omega),e1,e2,e3,ze4,Bool.true_and,cond_true,Int.toNat_natCast,show k+1 - k=1 by omega,show i+1 - i=1 by omega,z2s _ _ hi,z2s _ _ hk]
   rw [zB7 (d:=d) (by simp) (λw hw=>by
    rw [qh] at hw; subst hw; exact h _ (zl hk)) hd,zm4,zm4]
   simp only [List.map,zbag,cond_true])
  (λH K D=>by
   show (zuQ l i out.length out).ev H K D=_;unfold zuQ;have e3:decide ((out.length:Int)<Int.ofNat out.length)=false:=by simp
   simp only [Wy.ev_i,Wy.ev_k,e3,cond_false]) n hn
theorem z7Y (w:Wd) (out:yD):(zxY w out).length<=out.length+1:=by
 unfold zxY;cases zmG w with
 | false=>simp
 | true=>simp only [cond_true]; rw [(zFU _ w out).length_eq]; simp
theorem z7H {w y:Wd} {out:yD} (h:y∈zxY w out):y=w\/y∈out:=by
 unfold zxY at h;cases hb:zmG w with
 | false=>rw [hb] at h; exact .inr h
 | true=>rw [hb] at h; exact qd.1 ((zFU _ w out).mem_iff.1 h)
theorem z9N {d:Nat} (l:yD) (hl:l.length<=1000000) (h:∀ w∈l,zo d w.Ann) (hd:d<=99) (n:Nat) (hn:l.length<n):zOz n l 0 []=(true,l.foldl (λout w=>zxY w out) []):=by
 have hreach:zG=70368744177664:=rfl
 have:=zcD (W:=zN9) (z:=default) (l:=l) (λi (out:yD)=>(l,(),(i:Int),())) (λ_ out=>(out,())) (λw out=>.inl (zxY w out)) (λout=>out) (λi out=>out.length<=i/\∀ w∈out,zo d w.Ann)
  (λi out hi hI=>.inl ⟨_,rfl,⟨by have:=z7Y (l.getD i default) out; omega,λw hw=>by
    rcases z7H hw with rfl | hw
    ·exact h _ (zl hi)
    ·exact hI.2 w hw⟩,λH K D=>by
   show (zut l i out).ev H K D=_;unfold zut;have e0:((l.getD i default).Ann.length==0)= !zmG (l.getD i default):=z3O _;have e3:decide ((i:Int)<Int.ofNat l.length)=true:=by simp [hi]
   simp only [Wy.ev_i,Wy.ev_k,Wy.ev_h,Wy.ev_bn,Wy.ev_d,e3,ze4,Bool.and_self,cond_true,Int.toNat_natCast,show (Int.ofNat (l.getD i default).Ann.length==(0:Int))=((l.getD i default).Ann.length==0) from ztf _ 0,e0]
   rw [z8U l i hi hl out (by omega) hI.2 hd _ (by omega)]
   simp only [cond_true,z0H,zBU,List.nil_append,Int.toNat_natCast,e3,ze4,Bool.and_self,Int.le_refl,decide_true,Bool.true_and,Bool.and_true];have q1:=zbdQ (λy=>decide (z8 (z7 y) (z7 (l.getD i default))<=0)) out
   have q2:decide (((out.takeWhile λy=>decide (z8 (z7 y) (z7 (l.getD i default))<=0)).length:Int)<=Int.ofNat out.length)=true:=by simp only [qe,Int.ofNat_eq_natCast]; omega
   have hb1:decide ((0+(out.take (out.takeWhile λy=>decide (z8 (z7 y) (z7 (l.getD i default))<=0)).length).length)*56<=zG)=true:=by simp only [qe,List.length_take]; omega
   have hb2:decide (((out.take (out.takeWhile λy=>decide (z8 (z7 y) (z7 (l.getD i default))<=0)).length).length+[l.getD i default].length)*56<=zG)=true:=by simp only [qe,List.length_take,List.length_singleton]; omega
   have hb3:decide (((out.take (out.takeWhile λy=>decide (z8 (z7 y) (z7 (l.getD i default))<=0)).length++[l.getD i default]).length+(out.drop (out.takeWhile λy=>decide (z8 (z7 y) (z7 (l.getD i default))<=0)).length).length)*56<=zG)=true:=by simp only [qe,qg,List.length_take,List.length_singleton,List.length_drop]; omega
   simp only [q2,hb1,hb2,hb3,cond_true];rw [zB (by omega),zVl,zVb]
   unfold zxY zQW;cases zmG (l.getD i default) <;>simp⟩)
  (λout hI H K D=>by
   show (zut l l.length out).ev H K D=_;unfold zut;have e3:decide ((l.length:Int)<Int.ofNat l.length)=false:=by simp
   simp only [Wy.ev_i,Wy.ev_k,e3,cond_false]) n 0 [] (by omega) (by omega) ⟨by simp,λw hw=>by cases hw⟩
 rw [List.drop_zero,zcB] at this;exact this
theorem zYF:∀ (l out:yD),(l.foldl (λout w=>zxY w out) out).Perm (l.filter zmG++out)/\(Srt z7 out->Srt z7 (l.foldl (λout w=>zxY w out) out))
 | [],out=>⟨.refl _,λh=>h⟩
 | w::r,out=>by
  obtain ⟨h1,h2⟩:=zYF r (zxY w out);rw [List.foldl_cons,List.filter_cons];cases hb:zmG w with
  | false=>
   have e:zxY w out=out:=by unfold zxY; rw [hb]; rfl
   rw [e] at h1 h2 ⊢;exact ⟨by simpa using h1,h2⟩
  | true=>
   have e:zxY w out=zQW (λy=>decide (z8 (z7 y) (z7 w)<=0)) w out:=by unfold zxY; rw [hb]; rfl
   rw [e] at h1 h2 ⊢;refine ⟨?_,λh=>h2 (z3Y z7 w out h)⟩
   simp only [if_true,List.cons_append];exact h1.trans (((zFU _ w out).append_left _).trans List.perm_middle)
theorem z7A {d:Nat} (l:yD) (hl:l.length<=1000000) (h:∀ w∈l,zo d w.Ann) (hd:d<=99):zMn l=(true,zd9 l):=by
 unfold zMn zRJ;rw [Wy.fin_bn,z9N l hl h hd _ (by omega)]
 simp only [cond_true,Wy.fin_k];congr 1;obtain ⟨h1,h2⟩:=zYF l [];rw [List.append_nil] at h1;have hm:∀ w∈l.filter zmG,zo d w.Ann:=λw hw=>h w (List.mem_filter.1 hw).1
 refine (zJm (d:=d) (Nat.le_trans (List.length_filter_le _ _) hl) hm hd).unique h1 ?_;refine (h2 .nil).imp_of_mem λ{x y} hx hy hxy=> ?_
 rw [zkn (hm y (h1.mem_iff.1 hy)) hd,zgm (z7 x) (z7 y)];simp only; omega
def zMX (op sign:Int):Bool:=bif op==5 then sign==0 else bif op==6 then sign != 0 else bif op==7 then decide (sign<0) else bif op==8 then decide (sign<=0) else bif op==9 then decide (sign>0) else decide (sign≥0)
theorem z98 (op sign:Int):zq0 op sign=(true,zMX op sign):=by
 unfold zq0 zF9 zMX;simp only [Wy.fin_i,Wy.fin_k];cases op==5 <;>cases op==6 <;>cases op==7 <;>cases op==8 <;>cases op==9 <;>rfl
theorem z6I {op sign:Int} (h1:5<=op) (h2:op<=10):zGK op sign=(true,zMX op sign):=by
 unfold zGK zL2 zMX;simp only [Wy.fin_i,Wy.fin_k,zhD];by_cases a1:op=5
 ·simp [a1]
 by_cases a2:op=6
 ·simp [a2]
 by_cases a3:op=7
 ·simp [a3]
 by_cases a4:op=8
 ·simp [a4]
 by_cases a5:op=9
 ·simp [a5]
 have a6:op=10:=by omega
 simp [a6]
def zM2 (fn:Int) (l:yD) (op:Int) (b:Value):At:=⟨4,⟨0,0⟩,[],fn,l,op,b⟩
def zxX (fn:Int) (items:yD) (op:Int) (b:Value):yB×Int:=
 bif !(zAj fn items op b&&items.all λw=>zR w.Ann) then ([],1) else
 bif decide (0<(zd9 items).length) then zmu (zcW (zM2 fn (zd9 items) op b)) else
 bif fn==0&&zMX op (zen 0 b.Int) then ([⟨1,[]⟩],0) else ([],0)
theorem zH9 {l:yD} {w:Wd} (h:w∈zd9 l):w∈l/\w.Ann≠[]:=by
 have:=(zp2 _ _).mem_iff.1 h;obtain ⟨h1,h2⟩:=List.mem_filter.1 this;refine ⟨h1,λe=> ?_⟩
 rw [zmG,e] at h2; simp at h2
theorem zZe (l:yD):(zd9 l).length=(l.filter zmG).length:=(zp2 _ _).length_eq
theorem zTo {B:Nat}:∀ l:yD,(∀ w∈l,zM w.Ann<=B)->zc9 l<=l.length*(B+1)
 | [],_=>by rw [zfV]; simp
 | w::r,h=>by
  rw [ziR,qf];have h1:=h w (by simp)
  have h2:=zTo r λw hw=>h w (by simp [hw])
  rw [Nat.add_mul]; omega
theorem zJ2 {fn:Int} {l:yD} {op:Int} {b:Value} (hl:l.length<=1000000) (hf:zAj fn l op b=true) (hv:(l.all λw=>zR w.Ann)=true):zo 10 (zcW (zM2 fn (zd9 l) op b))/\zM (zcW (zM2 fn (zd9 l) op b))<=4611686018427387904:=by
 obtain ⟨_,hb,hit⟩:=ztC hf;have hvv:∀ w∈l,zR w.Ann=true:=λw hw=>List.all_eq_true.1 hv w hw
 have hlen:(zd9 l).length<=1000000:=by rw [zZe]; exact Nat.le_trans (List.length_filter_le _ _) hl
 constructor
 ·refine zTL ⟨⟨by simp [zM2],hlen,by have:=zvx hb; simp only [zM2]; omega⟩,λy hy=>(by cases hy),λw hw=> ?_⟩
  have hm:=(zH9 hw).1;exact ⟨by have:=zvx (hit w hm).1; omega,(zfk (hvv w hm)).1⟩
 ·rw [zXh,zhP];have h1:zc9 (zd9 l)<=(zd9 l).length*(4096+1):=zTo _ λw hw=>(zfk (hvv w (zH9 hw).1)).2.1
  show 2+(zfw []+zc9 (zd9 l))<=_;rw [zhg];have:=Nat.mul_le_mul hlen (Nat.le_refl (4096+1));omega
theorem zbaZ {d:Nat} (l:yD) (hl:l.length<=1000000) (h:∀ w∈l,zo d w.Ann/\zM w.Ann<=4611686018427387904) (hd:d<=99):zb8 l=(true, !l.all λw=>zR w.Ann):=by
 unfold zb8 zhv;have:zdi l=IG (λ(_:Unit) x=>znz x) (l.length+(Int.ofNat l.length).toNat +Int.toNat (0:Int)+(1:Nat)) () l:=rfl
 rw [zla (P:=λw=> !zR w.Ann) (this.trans (zIj _ _ _ _ _ (by omega) (λx hx=>by
  unfold znz zDk;rw [Wy.fin_bn,z1m (h x hx).1 (by omega) (h x hx).2]; rfl) (by omega)))]
 simp [List.all_eq_not_any_not]
theorem zba7 {d:Nat} (fn:Int) (l:yD) (op:Int) (b:Value) (hl:l.length<=1000000) (h:∀ w∈l,zo d w.Ann/\zM w.Ann<=4611686018427387904) (hd:d<=99) (h20:(l.filter zmG).length<20):
  zol fn l op b=(true,zxX fn l op b):=by
 unfold zol zHD zxX;have hI:=z9X l hl (λw hw=>(h w hw).1) hd h20
 have hgt:decide (Int.ofNat (zd9 l).length>0)=decide (0<(zd9 l).length):=zly _ 0;simp only [Wy.fin_bn,Wy.fin_i,Wy.fin_k,zX6 fn l op b hl,zbaZ l hl h hd,hI,cond_true,hgt];cases hf:zAj fn l op b with
 | false=>rfl
 | true=>
  cases hv:l.all λw=>zR w.Ann with
  | false=>rfl
  | true=>
   simp only [Bool.not_true,cond_false,Bool.and_self];rw [zF7];have hx:(⟨4,⟨0,0⟩,[],fn,zd9 l,op,b⟩:At)=zM2 fn (zd9 l) op b:=rfl;rw [hx,zzB (zJ2 hl hf hv).1 (by omega) (zJ2 hl hf hv).2]
   cases decide (0<(zd9 l).length) with
   | true=>rfl
   | false=>
    simp only [cond_false,zv5,z98,cond_true];cases fn==0 with
    | false=>rfl
    | true=>
     cases zMX op (zen 0 b.Int) <;>rfl
theorem z9a {d:Nat} (fn:Int) (l:yD) (op:Int) (b:Value) (hl:l.length<=1000000) (h:∀ w∈l,zo d w.Ann/\zM w.Ann<=4611686018427387904) (hd:d<=99):
  zQs fn l op b=(true,zxX fn l op b):=by
 unfold zQs zTO zxX;have hI:=z7A l hl (λw hw=>(h w hw).1) hd
 have hgt:decide (0<(zd9 l).length)= !((zd9 l).length==0):=by rw [z3O,Bool.not_not]
 have hL:zRA (fn.toNat +l.length+op.toNat +Int.toNat (0:Int)+(1:Nat)) fn l op (0:Int) b=(true,bif l.all λw=>zR w.Ann then .inr (fn,l,op,b) else .inl 1):=by
  have:=zcA (W:=zRj) (z:=.inl default) l.length (λi=>(fn,l,op,(),(i:Int),())) (λ_=>(b,())) (λi=>(λw:Wd=>zR w.Ann) (l.getD i default)) (.inl 1) (.inr (fn,l,op,b))
   (λi hi H K D=>by
    show (zwy fn l op i b).ev H K D=_;unfold zwy;have hx:=h _ (zl hi);simp only [Wy.ev_i,Wy.ev_k,Wy.ev_h,Wy.ev_bn,Wy.ev_d,tT,hi,zZi hx.1 (by omega) hx.2]
    rw [zB (by omega)]
    cases zR (l.getD i default).Ann <;>rfl)
   (λH K D=>by
    show (zwy fn l op l.length b).ev H K D=_;unfold zwy;simp only [Wy.ev_i,Wy.ev_k,tT,Nat.lt_irrefl]) (fn.toNat +l.length+op.toNat +Int.toNat (0:Int)+(1:Nat)) (by omega)
  rw [zyN (λw:Wd=>zR w.Ann)] at this
  exact this
 simp only [Wy.fin_bn,Wy.fin_i,Wy.fin_k,z3V fn l op b hl,hL,cond_true,hgt];cases hf:zAj fn l op b with
 | false=>rfl
 | true=>
  cases hv:l.all λw=>zR w.Ann with
  | false=>rfl
  | true=>
   simp only [Bool.not_true,cond_false,cond_true,Bool.and_self,isL,getR,hI];rw [show (Int.ofNat (zd9 l).length==(0:Int))=((zd9 l).length==0) from ztf _ 0,zNA]
   have hx:(⟨4,⟨0,0⟩,[],fn,zd9 l,op,b⟩:At)=zM2 fn (zd9 l) op b:=rfl;rw [hx,zOW (zJ2 hl hf hv).1 (by omega) (zJ2 hl hf hv).2]
   cases ((zd9 l).length==0) with
   | false=>rfl
   | true=>
    obtain ⟨⟨_,_,o1,o2⟩,_⟩:=ztC hf;simp only [cond_false,Bool.not_true,znY,z6I o1 o2,cond_true];cases fn==0 with
    | false=>rfl
    | true=>
     cases zMX op (zen 0 b.Int) <;>rfl
def zTR (a:Int) (b:Int):Wy0 (Int):=.k (if 1152921504606846976<IntKind.i64.wrap (a+b) then 1152921504606846976 else IntKind.i64.wrap (a+b))
def zCO (a:Int) (b:Int):=(zTR a b).fin default
abbrev zUV:=yB×Unit×Int×Unit
abbrev z4o:=yB×Int×Term
def zy6 (a:yB) (i:Int) (t:Term):Wy zUV (Term×Unit) z4o:=.i (decide (i<Int.ofNat a.length)) (.i (decide (0<=i)&&decide (i<Int.ofNat a.length)) (.bn (zpF (a.getD i.toNat default).Fs t.Fs) λr0=>.i (decide (r0<0)) (.h (a,(),(IntKind.i64.wrap (i+1)),()) (t,())) (.k (a,i,t))) .d) (.k (a,i,t))
def zUq (x:zUV) (y:Term×Unit):=zy6 x.1 x.2.2.1 y.1
def zTr (n:Nat) (a:yB) (i:Int) (t:Term):=zA (zUq) default n (a,(),i,()) (t,())
def zWm (a:yB) (t:Term):Wy0 (yB):=.bn (zTr (a.length+Int.toNat 0+t.Fs.length+1) a 0 t) λr3=>.i (decide ((0:Int)<=(0:Int))&&decide (0<=r3.2.1)&&decide (r3.2.1<=Int.ofNat r3.1.length)) (.i (decide ((0+(List.take (r3.2.1.toNat - Int.toNat 0) (List.drop (Int.toNat 0) r3.1)).length)*32<=zG)) (.i (decide (r3.2.1<Int.ofNat r3.1.length)) (.i (decide (0<=r3.2.1)&&decide (r3.2.1<Int.ofNat r3.1.length)) (.bn (zpF (r3.1.getD r3.2.1.toNat default).Fs r3.2.2.Fs) λr2=>.i (r2==0) (.i (decide (0<=r3.2.1)&&decide (r3.2.1<Int.ofNat r3.1.length)) (.i (decide ((([]++List.take (r3.2.1.toNat - Int.toNat 0) (List.drop (Int.toNat 0) r3.1)).length+[TO.mk (zCO (r3.1.getD r3.2.1.toNat default).Cf r3.2.2.Cf).2 r3.2.2.Fs].length)*32<=zG)) (.i (decide (0<=IntKind.i64.wrap (r3.2.1+1))&&decide (IntKind.i64.wrap (r3.2.1+1)<=Int.ofNat r3.1.length)&&decide (Int.ofNat r3.1.length<=Int.ofNat r3.1.length)) (.i (decide ((([]++List.take (r3.2.1.toNat - Int.toNat 0) (List.drop (Int.toNat 0) r3.1)++[TO.mk (zCO (r3.1.getD r3.2.1.toNat default).Cf r3.2.2.Cf).2 r3.2.2.Fs]).length+(List.take ((Int.ofNat r3.1.length).toNat - (IntKind.i64.wrap (r3.2.1+1)).toNat) (List.drop (IntKind.i64.wrap (r3.2.1+1)).toNat r3.1)).length)*32<=zG)) (.k ([]++List.take (r3.2.1.toNat - Int.toNat 0) (List.drop (Int.toNat 0) r3.1)++[TO.mk (zCO (r3.1.getD r3.2.1.toNat default).Cf r3.2.2.Cf).2 r3.2.2.Fs]++List.take ((Int.ofNat r3.1.length).toNat - (IntKind.i64.wrap (r3.2.1+1)).toNat) (List.drop (IntKind.i64.wrap (r3.2.1+1)).toNat r3.1))) .d) .d) .d) .d) (.i (decide ((([]++List.take (r3.2.1.toNat - Int.toNat 0) (List.drop (Int.toNat 0) r3.1)).length+[r3.2.2].length)*32<=zG)) (.i (decide (0<=r3.2.1)&&decide (r3.2.1<=Int.ofNat r3.1.length)&&decide (Int.ofNat r3.1.length<=Int.ofNat r3.1.length)) (.i (decide ((([]++List.take (r3.2.1.toNat - Int.toNat 0) (List.drop (Int.toNat 0) r3.1)++[r3.2.2]).length+(List.take ((Int.ofNat r3.1.length).toNat - r3.2.1.toNat) (List.drop r3.2.1.toNat r3.1)).length)*32<=zG)) (.k ([]++List.take (r3.2.1.toNat - Int.toNat 0) (List.drop (Int.toNat 0) r3.1)++[r3.2.2]++List.take ((Int.ofNat r3.1.length).toNat - r3.2.1.toNat) (List.drop r3.2.1.toNat r3.1))) .d) .d) .d)) .d) (.i (decide ((([]++List.take (r3.2.1.toNat - Int.toNat 0) (List.drop (Int.toNat 0) r3.1)).length+[r3.2.2].length)*32<=zG)) (.i (decide (0<=r3.2.1)&&decide (r3.2.1<=Int.ofNat r3.1.length)&&decide (Int.ofNat r3.1.length<=Int.ofNat r3.1.length)) (.i (decide ((([]++List.take (r3.2.1.toNat - Int.toNat 0) (List.drop (Int.toNat 0) r3.1)++[r3.2.2]).length+(List.take ((Int.ofNat r3.1.length).toNat - r3.2.1.toNat) (List.drop r3.2.1.toNat r3.1)).length)*32<=zG)) (.k ([]++List.take (r3.2.1.toNat - Int.toNat 0) (List.drop (Int.toNat 0) r3.1)++[r3.2.2]++List.take ((Int.ofNat r3.1.length).toNat - r3.2.1.toNat) (List.drop r3.2.1.toNat r3.1))) .d) .d) .d)) .d) .d
def zL3 (a:yB) (t:Term):=(zWm a t).fin default
abbrev zL8:=yC×Unit×Int×Unit
abbrev zY0:=yC×Int×Fc
def ztD (l:yC) (i:Int) (f:Fc):Wy zL8 (Fc×Unit) zY0:=.i (decide (i<Int.ofNat l.length)) (.i (decide (0<=i)&&decide (i<Int.ofNat l.length)) (.bn (zo6 (At.mk (l.getD i.toNat default).At.Kind (l.getD i.toNat default).At.Row (l.getD i.toNat default).At.Ag (l.getD i.toNat default).At.Func (l.getD i.toNat default).At.Items (l.getD i.toNat default).At.Op (l.getD i.toNat default).At.Bd) (At.mk f.At.Kind f.At.Row f.At.Ag f.At.Func f.At.Items f.At.Op f.At.Bd)) λr0=>.i (decide (r0<0)) (.h (l,(),(IntKind.i64.wrap (i+1)),()) (f,())) (.k (l,i,f))) .d) (.k (l,i,f))
def zMf (x:zL8) (y:Fc×Unit):=ztD x.1 x.2.2.1 y.1
def zLT (n:Nat) (l:yC) (i:Int) (f:Fc):=zA (zMf) default n (l,(),i,()) (f,())
def zOl (l:yC) (f:Fc):Wy0 (yC):=.bn (zLT (l.length+Int.toNat 0+f.At.Ag.length+f.At.Items.length+1) l 0 (FO.mk (At.mk f.At.Kind f.At.Row f.At.Ag f.At.Func f.At.Items f.At.Op f.At.Bd) f.Exp)) λr3=>.i (decide ((0:Int)<=(0:Int))&&decide (0<=r3.2.1)&&decide (r3.2.1<=Int.ofNat r3.1.length)) (.i (decide ((0+(List.take (r3.2.1.toNat - Int.toNat 0) (List.drop (Int.toNat 0) r3.1)).length)*128<=zG)) (.i (decide (r3.2.1<Int.ofNat r3.1.length)) (.i (decide (0<=r3.2.1)&&decide (r3.2.1<Int.ofNat r3.1.length)) (.bn (zo6 (At.mk (r3.1.getD r3.2.1.toNat default).At.Kind (r3.1.getD r3.2.1.toNat default).At.Row (r3.1.getD r3.2.1.toNat default).At.Ag (r3.1.getD r3.2.1.toNat default).At.Func (r3.1.getD r3.2.1.toNat default).At.Items (r3.1.getD r3.2.1.toNat default).At.Op (r3.1.getD r3.2.1.toNat default).At.Bd) (At.mk r3.2.2.At.Kind r3.2.2.At.Row r3.2.2.At.Ag r3.2.2.At.Func r3.2.2.At.Items r3.2.2.At.Op r3.2.2.At.Bd)) λr2=>.i (r2==0) (.i (decide (r3.2.2.At.Kind<3)) (.i (decide (0<=r3.2.1)&&decide (r3.2.1<Int.ofNat r3.1.length)) (.i (decide ((([]++List.take (r3.2.1.toNat - Int.toNat 0) (List.drop (Int.toNat 0) r3.1)).length+[FO.mk (At.mk r3.2.2.At.Kind r3.2.2.At.Row r3.2.2.At.Ag r3.2.2.At.Func r3.2.2.At.Items r3.2.2.At.Op r3.2.2.At.Bd) (IntKind.i64.wrap ((r3.1.getD r3.2.1.toNat default).Exp+r3.2.2.Exp))].length)*128<=zG)) (.i (decide (0<=IntKind.i64.wrap (r3.2.1+1))&&decide (IntKind.i64.wrap (r3.2.1+1)<=Int.ofNat r3.1.length)&&decide (Int.ofNat r3.1.length<=Int.ofNat r3.1.length)) (.i (decide ((([]++List.take (r3.2.1.toNat - Int.toNat 0) (List.drop (Int.toNat 0) r3.1)++[FO.mk (At.mk r3.2.2.At.Kind r3.2.2.At.Row r3.2.2.At.Ag r3.2.2.At.Func r3.2.2.At.Items r3.2.2.At.Op r3.2.2.At.Bd) (IntKind.i64.wrap ((r3.1.getD r3.2.1.toNat default).Exp+r3.2.2.Exp))]).length+(List.take ((Int.ofNat r3.1.length).toNat - (IntKind.i64.wrap (r3.2.1+1)).toNat) (List.drop (IntKind.i64.wrap (r3.2.1+1)).toNat r3.1)).length)*128<=zG)) (.k ([]++List.take (r3.2.1.toNat - Int.toNat 0) (List.drop (Int.toNat 0) r3.1)++[FO.mk (At.mk r3.2.2.At.Kind r3.2.2.At.Row r3.2.2.At.Ag r3.2.2.At.Func r3.2.2.At.Items r3.2.2.At.Op r3.2.2.At.Bd) (IntKind.i64.wrap ((r3.1.getD r3.2.1.toNat default).Exp+r3.2.2.Exp))]++List.take ((Int.ofNat r3.1.length).toNat - (IntKind.i64.wrap (r3.2.1+1)).toNat) (List.drop (IntKind.i64.wrap (r3.2.1+1)).toNat r3.1))) .d) .d) .d) .d) (.i (decide ((([]++List.take (r3.2.1.toNat - Int.toNat 0) (List.drop (Int.toNat 0) r3.1)).length+[FO.mk (At.mk r3.2.2.At.Kind r3.2.2.At.Row r3.2.2.At.Ag r3.2.2.At.Func r3.2.2.At.Items r3.2.2.At.Op r3.2.2.At.Bd) r3.2.2.Exp].length)*128<=zG)) (.i (decide (0<=IntKind.i64.wrap (r3.2.1+1))&&decide (IntKind.i64.wrap (r3.2.1+1)<=Int.ofNat r3.1.length)&&decide (Int.ofNat r3.1.length<=Int.ofNat r3.1.length)) (.i (decide ((([]++List.take (r3.2.1.toNat - Int.toNat 0) (List.drop (Int.toNat 0) r3.1)++[FO.mk (At.mk r3.2.2.At.Kind r3.2.2.At.Row r3.2.2.At.Ag r3.2.2.At.Func r3.2.2.At.Items r3.2.2.At.Op r3.2.2.At.Bd) r3.2.2.Exp]).length+(List.take ((Int.ofNat r3.1.length).toNat - (IntKind.i64.wrap (r3.2.1+1)).toNat) (List.drop (IntKind.i64.wrap (r3.2.1+1)).toNat r3.1)).length)*128<=zG)) (.k ([]++List.take (r3.2.1.toNat - Int.toNat 0) (List.drop (Int.toNat 0) r3.1)++[FO.mk (At.mk r3.2.2.At.Kind r3.2.2.At.Row r3.2.2.At.Ag r3.2.2.At.Func r3.2.2.At.Items r3.2.2.At.Op r3.2.2.At.Bd) r3.2.2.Exp]++List.take ((Int.ofNat r3.1.length).toNat - (IntKind.i64.wrap (r3.2.1+1)).toNat) (List.drop (IntKind.i64.wrap (r3.2.1+1)).toNat r3.1))) .d) .d) .d)) (.i (decide ((([]++List.take (r3.2.1.toNat - Int.toNat 0) (List.drop (Int.toNat 0) r3.1)).length+[FO.mk (At.mk r3.2.2.At.Kind r3.2.2.At.Row r3.2.2.At.Ag r3.2.2.At.Func r3.2.2.At.Items r3.2.2.At.Op r3.2.2.At.Bd) r3.2.2.Exp].length)*128<=zG)) (.i (decide (0<=r3.2.1)&&decide (r3.2.1<=Int.ofNat r3.1.length)&&decide (Int.ofNat r3.1.length<=Int.ofNat r3.1.length)) (.i (decide ((([]++List.take (r3.2.1.toNat - Int.toNat 0) (List.drop (Int.toNat 0) r3.1)++[FO.mk (At.mk r3.2.2.At.Kind r3.2.2.At.Row r3.2.2.At.Ag r3.2.2.At.Func r3.2.2.At.Items r3.2.2.At.Op r3.2.2.At.Bd) r3.2.2.Exp]).length+(List.take ((Int.ofNat r3.1.length).toNat - r3.2.1.toNat) (List.drop r3.2.1.toNat r3.1)).length)*128<=zG)) (.k ([]++List.take (r3.2.1.toNat - Int.toNat 0) (List.drop (Int.toNat 0) r3.1)++[FO.mk (At.mk r3.2.2.At.Kind r3.2.2.At.Row r3.2.2.At.Ag r3.2.2.At.Func r3.2.2.At.Items r3.2.2.At.Op r3.2.2.At.Bd) r3.2.2.Exp]++List.take ((Int.ofNat r3.1.length).toNat - r3.2.1.toNat) (List.drop r3.2.1.toNat r3.1))) .d) .d) .d)) .d) (.i (decide ((([]++List.take (r3.2.1.toNat - Int.toNat 0) (List.drop (Int.toNat 0) r3.1)).length+[FO.mk (At.mk r3.2.2.At.Kind r3.2.2.At.Row r3.2.2.At.Ag r3.2.2.At.Func r3.2.2.At.Items r3.2.2.At.Op r3.2.2.At.Bd) r3.2.2.Exp].length)*128<=zG)) (.i (decide (0<=r3.2.1)&&decide (r3.2.1<=Int.ofNat r3.1.length)&&decide (Int.ofNat r3.1.length<=Int.ofNat r3.1.length)) (.i (decide ((([]++List.take (r3.2.1.toNat - Int.toNat 0) (List.drop (Int.toNat 0) r3.1)++[FO.mk (At.mk r3.2.2.At.Kind r3.2.2.At.Row r3.2.2.At.Ag r3.2.2.At.Func r3.2.2.At.Items r3.2.2.At.Op r3.2.2.At.Bd) r3.2.2.Exp]).length+(List.take ((Int.ofNat r3.1.length).toNat - r3.2.1.toNat) (List.drop r3.2.1.toNat r3.1)).length)*128<=zG)) (.k ([]++List.take (r3.2.1.toNat - Int.toNat 0) (List.drop (Int.toNat 0) r3.1)++[FO.mk (At.mk r3.2.2.At.Kind r3.2.2.At.Row r3.2.2.At.Ag r3.2.2.At.Func r3.2.2.At.Items r3.2.2.At.Op r3.2.2.At.Bd) r3.2.2.Exp]++List.take ((Int.ofNat r3.1.length).toNat - r3.2.1.toNat) (List.drop r3.2.1.toNat r3.1))) .d) .d) .d)) .d) .d
def zJy (l:yC) (f:Fc):=(zOl l f).fin default
def zRb (a:Int) (b:Int):Wy0 (Int):=.i (!decide (b=0)) (.i (decide (a>IntKind.i64.wrap (Int.tdiv 1152921504606846976 b))) (.k 1152921504606846976) (.k (IntKind.i64.wrap (a*b)))) .d
def zMl (a:Int) (b:Int):=(zRb a b).fin default
end Go.Proofs.YtoknknbmfmddbaaGreatDoor
end
