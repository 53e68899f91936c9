/- Texts of this claim, joined (the program, its functions in plain words, and what they compute). -/
import Derived.Test.YtoknknbmfmddbaaGreatDoorGC10
set_option autoImplicit false
set_option linter.unusedVariables false
set_option linter.unusedSectionVars false
set_option linter.unusedSimpArgs false
set_option maxRecDepth 1000000
set_option maxHeartbeats 0
/- Substitution: the reference computes the same; the whole. -/
noncomputable section
namespace Go.Proofs.YtoknknbmfmddbaaGreatDoor
open Go Go.Ab
section
variable (g:At->yE->Bool×(yB×Int)) (l:yE)
end
section
variable (g:yB->yE->Bool×(yB×Int)) (l:yE)
end
theorem zVZ:∀ {l:yA} {a:yB},a∈l->zel a<=zpJ l
 | [],_,h=>by cases h
 | x::r,a,h=>by
  rw [zTg];rcases qd.1 h with rfl | h
  ·omega
  ·have:=zVZ h; omega
theorem zS2:∀ {l:yD} {w:Wd},w∈l->zel w.Ann<=zkM l
 | [],_,h=>by cases h
 | x::r,a,h=>by
  rw [zF7];rcases qd.1 h with rfl | h
  ·omega
  ·have:=zS2 h; omega
theorem zNi:∀ {l:yC} {f:Fc},f∈l->zDu f.At<=zha l
 | [],_,h=>by cases h
 | x::r,a,h=>by
  rw [zLc];rcases qd.1 h with rfl | h
  ·omega
  ·have:=zNi h; omega
theorem zZj:∀ {l:yB} {t:Term},t∈l->zha t.Fs<=zel l
 | [],_,h=>by cases h
 | x::r,a,h=>by
  rw [zLY];rcases qd.1 h with rfl | h
  ·omega
  ·have:=zZj h; omega
theorem zUo:∀ {l:yD},(∀ w∈l,w.Ann≠[])->l.length<=zkM l
 | [],_=>by simp
 | x::r,h=>by
  rw [zF7];have:=zUo (l:=r) λw hw=>h w (by simp [hw])
  have h1:1<=zel x.Ann:=by
   have:=h x (by simp)
   cases hx:x.Ann with
   | nil=>exact absurd hx this
   | cons t r=>rw [zLY]; omega
  simp only [qf];omega
mutual
def zxV:At->Prop
 | ⟨_,_,a,_,i,_,_⟩=>i.length<20/\zNm a/\zH3 i
def zA3:yC->Prop
 | []=>True
 | ⟨x,_⟩::r=>zxV x/\zA3 r
def zbV:yB->Prop
 | []=>True
 | ⟨_,fs⟩::r=>zA3 fs/\zbV r
def zNm:yA->Prop
 | []=>True
 | a::r=>zbV a/\zNm r
def zH3:yD->Prop
 | []=>True
 | ⟨_,a⟩::r=>zbV a/\zH3 r
end
theorem zBw (x:At):zxV x↔x.Items.length<20/\zNm x.Ag/\zH3 x.Items:=by cases x; rw [zxV]
theorem zv3:∀ {l:yC},zA3 l↔∀ f∈l,zxV f.At
 | []=>by rw [zA3]; simp
 | ⟨x,e⟩::r=>by rw [zA3,zv3 (l:=r)]; simp
theorem zEQ:∀ {l:yB},zbV l↔∀ t∈l,zA3 t.Fs
 | []=>by rw [zbV]; simp
 | ⟨x,e⟩::r=>by rw [zbV,zEQ (l:=r)]; simp
theorem zyG:∀ {l:yA},zNm l↔∀ a∈l,zbV a
 | []=>by rw [zNm]; simp
 | a::r=>by rw [zNm,zyG (l:=r)]; simp
theorem zww:∀ {l:yD},zH3 l↔∀ w∈l,zbV w.Ann
 | []=>by rw [zH3]; simp
 | ⟨x,e⟩::r=>by rw [zH3,zww (l:=r)]; simp
theorem z0V {m:Nat} {a:yB} (h:zbx (m+1) a=true):zfj a=true/\∀ t∈a,t.Fs.length<=64/\∀ f∈t.Fs,(1<=f.Exp/\f.Exp<=64)/\f.At.Items.length<=1024/\zd8 (zbx m) f.At=true:=by
 have hw:=zEC h;refine ⟨hw,λt ht=> ?_⟩
 obtain ⟨l1,l2⟩:=(zvy hw).2.2.2 t ht;refine ⟨l1,λf hf=> ?_⟩
 obtain ⟨⟨e1,_⟩,hv⟩:=zo3 (zuO h ht).2 hf;exact ⟨⟨e1,(l2 f hf).1⟩,(l2 f hf).2,hv⟩
theorem zV3:∀ (m:Nat) (a:yB),zbx m a=true->zbx (m+1) a=true
 | 0,_,h=>by cases h
 | m+1,a,h=>by
  have h':zwN (zd8 (zbx m)) a=true:=h;obtain ⟨h1,h2,h3⟩:=zP4.1 h';refine (zP4 (vat:=zd8 (zbx (m+1)))).2 ⟨h1,h2,λt ht=>⟨(h3 t ht).1,(h3 t ht).2.1,λf hf=>⟨((h3 t ht).2.2 f hf).1, ?_⟩⟩⟩
  exact zdv.2 ((zdv.1 ((h3 t ht).2.2 f hf).2).imp (zV3 m))
theorem zxI:∀ {m:Nat} {a:yB},zbx m a=true->zS a=true:=by
 intro m a h
 have key:∀ k,zbx (m+k) a=true:=λk=>by
  induction k with
  | zero=>exact h
  | succ k ih=>exact zV3 _ _ ih
 exact z4o (key 9) (by omega)
theorem z9R {m:Nat} {x:At} (h:zd8 (zbx m) x=true) (hm:m<=99):zoG x=true:=by
 refine zXu.2 ((zdv.1 h).imp λa ha=> ?_)
 exact zxI ha
theorem zWl {V:yB->Bool} {x:At} (h:zd8 V x=true):(∀ a∈x.Ag,V a=true)/\∀ w∈x.Items,V w.Ann=true/\w.Ann≠[]:=by
 constructor
 ·cases zdv.1 h <;>simp_all
 ·cases zdv.1 h <;>simp_all
theorem zXJ:∀ (m:Nat) (a:yB),zbx m a=true->zel a<=38->zbV a
 | 0,_,h,_=>by cases h
 | m+1,a,h,hs=>by
  obtain ⟨_,w2⟩:=z0V h;refine zEQ.2 λt ht=>zv3.2 λf hf=>(zBw _).2 ?_
  have hv:=((w2 t ht).2 f hf).2.2;have h1:=zNi hf;have h2:=zZj ht;have h3:=zX6 f.At;obtain ⟨hargs,hitems⟩:=zWl hv;refine ⟨by have:=zUo λw hw=>(hitems w hw).2; omega,zyG.2 λb hb=>zXJ m b (hargs b hb) (by have:=zVZ hb; omega),zww.2 λw hw=>zXJ m w.Ann (hitems w hw).1 (by have:=zS2 hw; omega)⟩
theorem z6o {l:yE} (hl:okB l):∀ n,
  (∀ m a,zbx m a=true->m<=99->zgC a->zbV a->2*m<=n->zkn n a l=(true,ofS (zdC (toA l) a []))/\GS (zdC (toA l) a []))/\
  (∀ m x,zd8 (zbx m) x=true->m<=99->zgz x->x.Items.length<=1024->zxV x->2*m+1<=n->zhV n x l=(true,ofS (zhN (toA l) x))/\GS (zhN (toA l) x))
 | 0=>by
  refine ⟨λm a h _ _ _ hm=> ?_,λm x _ _ _ _ _ hm=>by omega⟩
  have:m=0:=by omega
  subst this; cases h
 | n+1=>by
  obtain ⟨h1,h2⟩:=z6o hl n;have ht:okT (toA l):=z8T hl.2;refine ⟨λm a h h99 hw hs hm=> ?_,λm x h h99 hw hi hs hm=> ?_⟩
  ·cases m with
   | zero=>cases h
   | succ m=>
    obtain ⟨w1,w2⟩:=z0V h;obtain ⟨a1,a2,a3,a4⟩:=zvy w1;have hwt:=λt (ht:t∈a)=>zvr (zsd hw t ht)
    have hwf:=λt (ht:t∈a) f (hf:f∈t.Fs)=>(zqN (znO (hwt t ht).2.1 f hf)).1
    have hA:∀ t∈a,∀ f∈t.Fs,(zhV n f.At l=(true,ofS (zhN (toA l) f.At))/\GS (zhN (toA l) f.At)):=λt ht f hf=>
     h2 m f.At ((w2 t ht).2 f hf).2.2 (by omega) (hwf t ht f hf) ((w2 t ht).2 f hf).2.1 (zv3.1 (zEQ.1 hs t ht) f hf) (by omega)
    have hE:=λt (ht:t∈a) f (hf:f∈t.Fs)=>((w2 t ht).2 f hf).1
    have hok:∀ t∈a,∀ p,okA p->GS (zeB (toA l) t.Fs p):=λt ht' p hp=>zJq ht t.Fs 9 (λf hf=>⟨hwf t ht' f hf,zvG ((w2 t ht').2 f hf).2.2 ((w2 t ht').2 f hf).2.1⟩) p hp
    have hG:GS (zdC (toA l) a []):=zOR ht a 9 hw (λt ht f hf=>zvG ((w2 t ht).2 f hf).2.2 ((w2 t ht).2 f hf).2.1) [] zk5
    refine ⟨?_,hG⟩
    ·rw [zKS];exact zbeI _ l a (by omega) (λt ht=>⟨by have:=(w2 t ht).1; omega,λf hf=>⟨⟨(hA t ht f hf).1,(hA t ht f hf).2⟩,by have:=(hE t ht f hf).1; omega,by have:=(hE t ht f hf).2; omega⟩⟩) hok
  ·have hf:=zvG h hi;have hw':=zsb hw;have hv:=z9R h h99;obtain ⟨h20,s1,s2⟩:=(zBw x).1 hs;obtain ⟨hargs,hitems⟩:=zWl h;have ga:=λa (ha:a∈x.Ag)=>h1 m a (hargs a ha) h99 (zju hw'.1.1 a ha).1 (zyG.1 s1 a ha) (by omega)
   have gi:=λw (hw:w∈x.Items)=>h1 m w.Ann (hitems w hw).1 h99 (zje hw'.2.1.1 w hw).2.1 (zww.1 s2 w hw) (by omega)
   have sa:=zS3 ht x.Ag 9 (λa ha=>(zju hw'.1.1 a ha).1) hf.2.1
   have si:=zP5 ht x.Items 9 (λw hw=>(zje hw'.2.1.1 w hw).2.1) λw hw=>(hf.2.2 w hw).2
   refine ⟨?_,z1B ht x 9 hw hf⟩
   ·rw [zEB];exact zbbY _ l hl x ⟨hv,⟨hf.1.1,h20⟩,λa ha=>⟨(ga a ha).1,(ga a ha).2⟩,λw hw=>⟨(gi w hw).1,(gi w hw).2⟩,sa,si,hw⟩
def zbaw (a:yB) (l:yE):yB×Int:=opR (zS a&&l.all λb=>zS b.To) (ofS (zdC (toA l) a []))
theorem zbd4 {l:yE} (h:okB l):zcd l=(true, !l.all λb=>zS b.To):=by
 unfold zcd zhy;have:zdF l=IG (λ(_:Unit) x=>zh4 x) (l.length+(Int.ofNat l.length).toNat +Int.toNat (0:Int)+(1:Nat)) () l:=rfl
 rw [zkj (P:=λb=> !zS b.To) (this.trans (zHb _ _ _ _ _ (by have:=h.1; omega) (λx hx=>by
  unfold zh4 zwp;rw [Wy.fin_bn,(h.2 x hx).valid]; rfl) (by omega)))]
 simp [List.all_eq_not_any_not]
theorem z0y {a:yB} {l:yE} (oa:okA a) (ha:zS a=true->zbV a) (h:okB l):zjG a l=(true,zbaw a l):=by
 have key:zS a=true->zxx a l=(true,ofS (zdC (toA l) a [])):=λhv=>((z6o h 1000).1 9 a (zXi hv (Nat.le_refl 9)) (by omega) oa.2.1 (ha hv) (by omega)).1
 unfold zjG zyT zbaw;simp only [Wy.fin_i,Wy.fin_bn,Wy.fin_k,oa.valid,cond_true,zbd4 h];cases hv:zS a with
 | false=>rfl
 | true=>
  cases (l.all λb=>zS b.To) with
  | false=>rfl
  | true=>
   simp only [Bool.not_true,cond_false,key hv,cond_true];rfl
def zbeW (a b:yB):yB:=if b=[] then a else if a=[]\/a=b then [] else zcF (z7q a b)
def zbeJ (a:yB):yB:=if a=[]\/isU a=true then a else if isC a=true then [⟨1,[]⟩] else zcF (z0d a)
def zbeO (a:yB):yB:=if a=[] then [⟨1,[]⟩] else if zwX a=true then [] else zcF (z6Y a)
def zbeN (f:Int) (l:yD) (o:Int) (b:Value):yB:=
 if 0<(zdT l).length then zcF (zL5 f (zdT l) o b) else if (f==0&&zMB o (zeb 0 b.Int))=true then [⟨1,[]⟩] else []
def IdP (a:yB):Prop:=a=[]\/a=[⟨1,[]⟩]\/∃ x:At,(x.Kind=3\/x.Kind=4)/\a=zcF x
theorem IdP.sq {a:yB} (h:IdP a):znl a a=a:=by
 rcases h with rfl | rfl | ⟨x,hx,rfl⟩
 ·rfl
 ·exact z9r zbcZ
 ·exact zbbt hx
def zbcO (b:yB):Nat->yB
 | 0=>[⟨1,[]⟩]
 | n+1=>znl b (zbcO b n)
section
variable (σ:At->yB)
def SG (x:At):Prop:=PA (σ x)/\(x.Kind=3\/x.Kind=4->IdP (σ x))
variable {σ}
def EA (σ:At->yB) (a:yB):Prop:=PA a/\∀ t∈a,∀ f∈t.Fs,SG σ f.At
theorem EA.p {a:yB} (h:EA σ a):∀ t∈a,cOK t/\∀ f∈t.Fs,SG σ f.At:=λt ht=>⟨h.1.c t ht,h.2 t ht⟩
theorem EA.sum {a b:yB} (ha:EA σ a) (hb:EA σ b):EA σ (zcp a b):=⟨zm0 ha.1 hb.1,λt ht f hf=>by
 obtain ⟨x,hx,e⟩:=zH7 b a ha.1.1 ht;rw [e] at hf;rcases hx with hx | hx
 ·exact ha.2 x hx f hf
 ·exact hb.2 x hx f hf⟩
end
mutual
def zbdl (to:RowID->yB):At->yB
 | ⟨k,r,a,f,i,o,b⟩=>if k=0 then to r else if k=1 then zbeW ((zTn to a).getD 0 default) ((zTn to a).getD 1 default) else if k=2 then zbeJ ((zTn to a).getD 0 default)
  else if k=3 then zbeO ((zTn to a).getD 0 default) else zbeN f (z5V to i) o b
def z9f (to:RowID->yB):yC->yB
 | []=>[⟨1,[]⟩]
 | ⟨x,e⟩::r=>znl (zbcO (zbdl to x) e.toNat) (z9f to r)
def z7j (to:RowID->yB):yB->yB->yB
 | [],s=>s
 | ⟨c,fs⟩::r,s=>z7j to r (zcp s (znl [⟨c,[]⟩] (z9f to fs)))
def zTn (to:RowID->yB):yA->yA
 | []=>[]
 | a::r=>z7j to a []::zTn to r
def z5V (to:RowID->yB):yD->yD
 | []=>[]
 | ⟨v,a⟩::r=>⟨v,z7j to a []⟩::z5V to r
end
section
variable (to:RowID->yB)
variable {to} (hto:∀ r,PA (to r))
include hto
omit hto in
theorem zbbJ {c:Int} (h:1<=c/\c<=1152921504606846976):zz5 c=[⟨c,[]⟩]:=by
 unfold zz5; rw [if_neg (by omega),if_neg (by omega)]
end
theorem zFa {a:yB}:zfj a=true↔a.length<=512/\zbm a<=8/\zM a<=4096/\∀ t∈a,t.Fs.length<=64/\∀ f∈t.Fs,f.Exp<=64/\f.At.Items.length<=1024:=by
 refine ⟨zvy,λ⟨h1,h2,h3,h4⟩=> ?_⟩
 unfold zfj;simp only [qc,qe];refine ⟨⟨⟨h1,h2⟩,h3⟩,List.all_eq_true.2 λt ht=> ?_⟩
 obtain ⟨h5,h6⟩:=h4 t ht;unfold zzQ;rw [Bool.not_eq_true',Bool.or_eq_false_iff];refine ⟨by simp; omega, ?_⟩
 rw [List.any_eq_false];intro f hf;obtain ⟨h7,h8⟩:=h6 f hf;simp;exact ⟨h7,h8⟩
theorem zYv:∀ a b:yB,zM (a++b)=zM a+zM b
 | [],b=>by rw [zvC]; simp
 | t::r,b=>by rw [List.cons_append,zfL,zfL,zYv r b]; omega
theorem zX9:∀ a b:yB,zbm (a++b)=max (zbm a) (zbm b)
 | [],b=>by rw [zHD]; simp
 | t::r,b=>by rw [List.cons_append,zwq,zwq,zX9 r b]; omega
theorem zDX:∀ a b:yC,zbH (a++b)=zbH a+zbH b
 | [],b=>by rw [ziq]; simp
 | t::r,b=>by rw [List.cons_append,zcZ,zcZ,zDX r b]; omega
theorem zD7:∀ a b:yC,zdi (a++b)=max (zdi a) (zdi b)
 | [],b=>by rw [zpQ]; simp
 | t::r,b=>by rw [List.cons_append,zi0,zi0,zD7 r b]; omega
structure FB (l:yC):Prop where
 len:l.length<=64
 nes:zdi l<=8
 siz:1+l.length+zbH l<=4096
 fs:∀ f∈l,f.Exp<=64/\f.At.Items.length<=1024
theorem FB.wi {l:yC} (h:FB l) (c:Int):zfj [⟨c,l⟩]=true:=zFa.2 ⟨by simp,by rw [zwq,zHD]; have:=h.nes; simp only; omega,by rw [zfL,zvC]; have:=h.siz; simp only; omega,λt ht=>by
 rw [qh] at ht; subst ht; exact ⟨h.len,h.fs⟩⟩
theorem FB.of {a:yB} (h:zfj a=true) {t:Term} (ht:t∈a):FB t.Fs:=by
 obtain ⟨h1,h2,h3,h4⟩:=zFa.1 h;obtain ⟨h5,h6⟩:=h4 t ht;refine ⟨h5,Nat.le_trans (zX2 ht) h2, ?_,h6⟩
 have key:∀ {a:yB},t∈a->1+t.Fs.length+zbH t.Fs<=zM a:=by
  intro a;induction a with
  | nil=>intro h; cases h
  | cons u r ih=>
   intro h;rw [zfL];rcases qd.1 h with rfl | h
   ·omega
   ·have:=ih h; omega
 have:=key ht;omega
theorem FB.app {a b:yC} (h:FB (a++b)):FB a/\FB b:=by
 obtain ⟨h1,h2,h3,h4⟩:=h;rw [qg] at h1 h3;rw [zD7] at h2;rw [zDX] at h3;exact ⟨⟨by omega,by omega,by omega,λf hf=>h4 f (by simp [hf])⟩,⟨by omega,by omega,by omega,λf hf=>h4 f (by simp [hf])⟩⟩
theorem FB.exp {P:yC} {x:At} {e j:Int} (h:FB (P++[⟨x,e⟩])) (hj:j<=64):FB (P++[⟨x,j⟩]):=by
 obtain ⟨h1,h2,h3,h4⟩:=h;rw [qg] at h1 h3;rw [zD7,zi0,zpQ] at h2;rw [zDX,zcZ,ziq] at h3;refine ⟨by rw [qg]; exact h1,by rw [zD7,zi0,zpQ]; exact h2,by rw [qg,zDX,zcZ,ziq]; exact h3,λf hf=> ?_⟩
 rcases List.mem_append.1 hf with hf | hf
 ·exact h4 f (by simp [hf])
 ·rw [qh] at hf; subst hf;exact ⟨hj,(h4 ⟨x,e⟩ (by simp)).2⟩
theorem OKF.app {a b:yC} (h:OKF zoG (a++b)):OKF zoG a/\OKF zoG b:=⟨⟨(List.pairwise_append.1 h.1).1,λf hf=>h.2 f (by simp [hf])⟩,⟨(List.pairwise_append.1 h.1).2.1,λf hf=>h.2 f (by simp [hf])⟩⟩
theorem OKF.exp {P:yC} {x:At} {e j:Int} (h:OKF zoG (P++[⟨x,e⟩])) (h1:1<=j) (h2:j<=e):OKF zoG (P++[⟨x,j⟩]):=by
 have hx:=h.2 ⟨x,e⟩ (by simp)
 refine ⟨List.pairwise_append.2 ⟨(List.pairwise_append.1 h.1).1,by simp,λa ha b hb=> ?_⟩,λf hf=> ?_⟩
 ·rw [qh] at hb; subst hb;exact (List.pairwise_append.1 h.1).2.2 a ha ⟨x,e⟩ (by simp)
 ·rcases List.mem_append.1 hf with hf | hf
  ·exact h.2 f (by simp [hf])
  ·rw [qh] at hf; subst hf;refine ⟨⟨h1,λhk=> ?_⟩,hx.2⟩
   have:=hx.1.2 hk;have h3:e=1:=this;show j=1;omega
theorem zYl {c:Int} {F:yC} (hc:1<=c/\c<=1152921504606846976) (hF:OKF zoG F) (hb:FB F):zS [⟨c,F⟩]=true:=zsz.2 ⟨hb.wi c,by simp,λt ht=>by
 rw [qh] at ht; subst ht; exact ⟨hc,hF⟩⟩
theorem z1y {y:Fc}:∀ {P:yC},(∀ z∈P,cF z y<0)->zbz P [y]=P++[y]
 | [],_=>by rw [zbz]; rfl
 | z::r,h=>by rw [zbz,if_pos (h z (by simp)),z1y λw hw=>h w (by simp [hw])]; rfl
theorem zTV {x:At} {j:Int} (hk:¬ (x.Kind=3\/x.Kind=4)):∀ {P:yC},(∀ z∈P,cF z ⟨x,1⟩<0)->zbz (P++[⟨x,j⟩]) [⟨x,1⟩]=P++[⟨x,j+1⟩]
 | [],_=>by
  have e:cF ⟨x,j⟩ ⟨x,1⟩=0:=cF_self' rfl;show zbz [⟨x,j⟩] [⟨x,1⟩]=[⟨x,j+1⟩];rw [zbz,e,if_neg (by omega),if_neg (by omega),if_neg hk,zbz]
 | z::r,h=>by
  show zbz (z::(r++[⟨x,j⟩])) [⟨x,1⟩]=_;rw [zbz,if_pos (h z (by simp)),zTV hk λw hw=>h w (by simp [hw])]; rfl
theorem z1K {c:Int} (hc:1<=c/\c<=1152921504606846976) (M:yC) (x:At):znl [⟨c,M⟩] (zcF x)=[⟨c,zbz M [⟨x,1⟩]⟩]:=by
 show zcp [] [zi1 ⟨c,M⟩ ⟨1,[⟨x,1⟩]⟩]=_;unfold zi1;simp only [zPr hc.2];rfl
section
variable {c:Int} (hc:1<=c/\c<=1152921504606846976)
include hc
theorem z4l {P:yC} {x:At} {e:Int} (hF:OKF zoG (P++[⟨x,e⟩])) (hb:FB (P++[⟨x,e⟩])) (hv:zS (zcF x)=true):
  ∀ (n j:Nat),1<=j->(j+n:Int)=e->zzY (zcF x) n [⟨c,P++[⟨x,(j:Int)⟩]⟩]=.inr [⟨c,P++[⟨x,e⟩]⟩]
 | 0,j,_,h=>by rw [show (j:Int)=e from by omega]; rfl
 | n+1,j,h1,h=>by
  have he:=(hF.2 ⟨x,e⟩ (by simp)).1
  have he64:=(hb.fs ⟨x,e⟩ (by simp)).1
  have hk:¬ (x.Kind=3\/x.Kind=4):=λhk=>by
   have:e=1:=he.2 hk;omega
  have he64:e<=64:=he64;have hj:=zYl hc (hF.exp (j:=(j:Int)) (by omega) (by omega)) (hb.exp (j:=(j:Int)) (by omega))
  have hlt:∀ z∈P,cF z ⟨x,1⟩<0:=λz hz=>(List.pairwise_append.1 hF.1).2.2 z hz ⟨x,e⟩ (by simp)
  have hp:znl [⟨c,P++[⟨x,(j:Int)⟩]⟩] (zcF x)=[⟨c,P++[⟨x,((j+1:Nat):Int)⟩]⟩]:=by
   rw [z1K hc,zTV hk hlt]; rfl
  unfold zzY;rw [z5Y hj hv (by rw [hp]; exact (hb.exp (by omega)).wi c),hp,z3c,zdz]
  exact z4l hF hb hv n (j+1) (by omega) (by omega)
theorem z4m:∀ {l:yC} {P:yC},OKF zoG (P++l)->FB (P++l)->(∀ f∈l,zhN zvb f.At=.inr (zcF f.At)/\zS (zcF f.At)=true)->zeB zvb l [⟨c,P⟩]=.inr [⟨c,P++l⟩]
 | [],P,_,_,_=>by rw [zRh,List.append_nil]
 | ⟨x,e⟩::r,P,hF,hb,h=>by
  have hx:=h ⟨x,e⟩ (by simp)
  have e2:P++⟨x,e⟩::r=(P++[⟨x,e⟩])++r:=by simp
  rw [e2] at hF hb ⊢;have hF1:=hF.app.1;have hb1:=hb.app.1;have he:=(hF1.2 ⟨x,e⟩ (by simp)).1.1
  have he:1<=e:=he;have he64:e<=64:=(hb1.fs ⟨x,e⟩ (by simp)).1
  rw [zOK,show zhN zvb (⟨x,e⟩:Fc).At=.inr (zcF x) from hx.1,zdz]
  have hp:zzY (zcF x) (⟨x,e⟩:Fc).Exp.toNat [⟨c,P⟩]=.inr [⟨c,P++[⟨x,e⟩]⟩]:=by
   obtain ⟨n,hn⟩:∃ n:Nat,e=n+1:=⟨(e - 1).toNat,by omega⟩
   show zzY (zcF x) e.toNat [⟨c,P⟩]=_;rw [show e.toNat=n+1 from by omega]
   have hv0:zS [⟨c,P⟩]=true:=zYl hc hF1.app.1 hb1.app.1;have hlt:∀ z∈P,cF z ⟨x,1⟩<0:=λz hz=>(List.pairwise_append.1 hF1.1).2.2 z hz ⟨x,e⟩ (by simp)
   have hp:znl [⟨c,P⟩] (zcF x)=[⟨c,P++[⟨x,1⟩]⟩]:=by rw [z1K hc,z1y hlt]
   unfold zzY;rw [z5Y hv0 hx.2 (by rw [hp]; exact (hb1.exp (by omega)).wi c),hp,z3c,zdz]
   exact z4l hc hF1 hb1 hx.2 n 1 (by omega) (by omega)
  rw [hp,zdz];exact z4m hF hb λf hf=>h f (by simp [hf])
end
theorem zEX {s r:yB} (h:zS (s++r)=true):zS s=true/\zS r=true:=by
 obtain ⟨h1,h2,h3⟩:=zsz.1 h;obtain ⟨w1,w2,w3,w4⟩:=zFa.1 h1;rw [qg] at w1;rw [zX9] at w2;rw [zYv] at w3
 exact ⟨zsz.2 ⟨zFa.2 ⟨by omega,by omega,by omega,λt ht=>w4 t (by simp [ht])⟩,(List.pairwise_append.1 h2).1,λt ht=>h3 t (by simp [ht])⟩,
  zsz.2 ⟨zFa.2 ⟨by omega,by omega,by omega,λt ht=>w4 t (by simp [ht])⟩,(List.pairwise_append.1 h2).2.1,λt ht=>h3 t (by simp [ht])⟩⟩
theorem z3F:∀ {r s:yB},zS (s++r)=true->(∀ t∈r,∀ f∈t.Fs,zhN zvb f.At=.inr (zcF f.At)/\zS (zcF f.At)=true)->zdC zvb r s=.inr (s++r)
 | [],s,_,_=>by rw [z07,List.append_nil]
 | t::r,s,hv,h=>by
  have e2:s++t::r=(s++[t])++r:=by simp
  rw [e2] at hv ⊢;obtain ⟨h1,h2⟩:=zsz.1 (zEX hv).1;have ht:=h2.2 t (by simp)
  have hb:FB t.Fs:=FB.of h1 (by simp)
  have hf:=z4m ht.1 (l:=t.Fs) (P:=[]) ht.2 hb (h t (by simp))
  have hadd:zo8 s [t]=(s++[t],0):=by
   have e:zcp s [t]=s++[t]:=z0o _ _ h2.1;rw [zba2 (zEX (zEX hv).1).1 (zEX (zEX hv).1).2 (by rw [e]; exact h1),e]
  rw [zZt,zbbJ ht.1,hf,zdz];show sbd (opS (zo8 s [t])) _=_;rw [hadd,z3c,zdz];exact z3F hv λu hu=>h u (by simp [hu])
theorem z90 {d:Nat} {l:yD} (hl:l.length<=1000000) (h:∀ w∈l,zn d w.Ann/\w.Ann≠[]) (hd:d<=99) (hs:zTF l=true):zdT l=l:=by
 have e:l.filter zl1=l:=List.filter_eq_self.2 λw hw=>by
  have:=(h w hw).2;unfold zl1;cases hx:w.Ann with
  | nil=>exact absurd hx this
  | cons x r=>simp
 unfold zdT;rw [e]
 have hp:l.Pairwise λx y=>z8 (zba x) (zba y)<=0:=zum (R:=λx y=>z8 (zba x) (zba y)<=0) (λx y z h1 h2=>zsp _ _ _ h1 h2) l λk hk hl'=>by
  have:=zdx.1 hs k (by omega) (by omega)
  unfold zQA at this;rw [Bool.or_eq_true,qe,qe] at this;rcases this with e | e
  ·omega
  ·exact e
 refine ((zJi hl (λw hw=>(h w hw).1) hd).unique (.refl _) ?_).symm
 refine hp.imp_of_mem λ{x y} hx hy hxy=> ?_
 rw [zjx (h y hy).1 hd,zfV (zba x) (zba y)];simp only; omega
def AB (x:At):Prop:=znh x<=8/\ze6 x+2<=4096/\x.Items.length<=1024
theorem AB.wi {x:At} (h:AB x):zfj (zcF x)=true:=(FB.wi (l:=[⟨x,1⟩]) ⟨by simp,by rw [zi0,zpQ]; have:=h.1; simp only; omega,by rw [zcZ,ziq]; have:=h.2.1; simp only [List.length_singleton]; omega,λf hf=>by
 rw [qh] at hf; subst hf; exact ⟨by simp,h.2.2⟩⟩ 1)
theorem AB.of {l:yC} (h:FB l) {f:Fc} (hf:f∈l):AB f.At:=by
 refine ⟨Nat.le_trans (zNR hf) h.nes, ?_,(h.fs f hf).2⟩;have h1:=zNA hf
 have h2:1<=l.length:=by cases l with
  | nil=>cases hf
  | cons a r=>simp
 have:=h.siz;omega
theorem zbbL {m:Nat} (hA:∀ a,zbx m a=true->zdC zvb a []=.inr a) (x:At) (h:zd8 (zbx m) x=true) (hx:AB x):zhN zvb x=.inr (zcF x):=by
 have hw:=hx.wi;rw [z0U];cases zdv.1 h with
 | var r hr=>
  simp only [if_true];unfold zvb; rw [hr]; rfl
 | mon a b ha hb ha0 hb0 hab=>
  simp only [show ¬ (1:Int)=0 from by omega,if_false,if_true]
  rw [zzE,hA a ha,zdz,zzE,hA b hb,zdz,zBx,zdz,zdz,zdz];show opS (zPs a b)=_;unfold zPs opR;rw [zxI ha,zxI hb,if_neg hb0,if_neg (by simp [ha0,hab])]
  show opS (zlR (zcF (z7q a b)))=_;rw [zH2 (a:=zcF (z7q a b)) hw]; rfl
 | del a ha ha0 hc hu=>
  simp only [show ¬ (2:Int)=0 from by omega,show ¬ (2:Int)=1 from by omega,if_false,if_true]
  rw [zzE,hA a ha,zdz,zBx,zdz,zdz];show opS (zPh a)=_;unfold zPh opR;rw [zxI ha,if_neg (by simp [ha0,hu]),if_neg (by simp [hc])]
  show opS (zlR (zcF (z0d a)))=_;rw [zH2 (a:=zcF (z0d a)) hw]; rfl
 | abs a ha ha0 hc=>
  simp only [show ¬ (3:Int)=0 from by omega,show ¬ (3:Int)=1 from by omega,show ¬ (3:Int)=2 from by omega,if_false,if_true]
  rw [zzE,hA a ha,zdz,zBx,zdz,zdz];show opS (zP9 a)=_;unfold zP9 opR;rw [zxI ha,if_neg ha0,if_neg (by simp [hc])]
  show opS (zlR (zcF (z6Y a)))=_;rw [zH2 (a:=zcF (z6Y a)) hw]; rfl
 | tst f l o b hl hi hs hf=>
  simp only [show ¬ (4:Int)=0 from by omega,show ¬ (4:Int)=1 from by omega,show ¬ (4:Int)=2 from by omega,show ¬ (4:Int)=3 from by omega,if_false]
  have key:∀ l:yD,(∀ w∈l,zbx m w.Ann=true)->zhv zvb l=.inr l:=by
   intro l;induction l with
   | nil=>intro _; rw [zWG]
   | cons w r ih=>
    intro hm;rw [zSI,hA w.Ann (hm w (by simp)),zdz,ih λv hv=>hm v (by simp [hv]),zdz]
  have hlen:l.length<=1024:=hx.2.2;have hs':=z90 (d:=9) (l:=l) (by omega) (λw hw=>⟨(zeU (hi w hw).1).1,(hi w hw).2⟩) (by omega) hs
  rw [zBx,zdz,key l λw hw=>(hi w hw).1,zdz]
  show opS (zxe f l o b)=_;unfold zxe;have hall:(l.all λw=>zS w.Ann)=true:=List.all_eq_true.2 λw hw=>zxI (hi w hw).1
  have hpos:0<l.length:=by cases l with
   | nil=>exact absurd rfl hl
   | cons a r=>simp
  rw [hf,hall,hs',decide_eq_true hpos];show opS (zlR (zcF (zL5 f l o b)))=_;rw [zH2 (a:=zcF (zL5 f l o b)) hw]; rfl
theorem z8M:∀ m,∀ a,zbx m a=true->zdC zvb a []=.inr a
 | 0,a,h=>by cases h
 | m+1,a,h=>by
  obtain ⟨h1,_,h3⟩:=zP4.1 (show zwN (zd8 (zbx m)) a=true from h)
  exact z3F (s:=[]) (zxI h) λt ht f hf=>by
   have hb:=AB.of (FB.of h1 ht) hf;have hv:=((h3 t ht).2.2 f hf).2;exact ⟨zbbL (z8M m) f.At hv hb,z8a (zXu.2 ((zdv.1 hv).imp λa ha=>zxI ha)) hb.wi⟩
theorem zbdN {a:yB} (h:zS a=true):zdC zvb a []=.inr a:=z8M 100 a h
def dvF (a b:yC):Bool:=a.all λf=>b.any λg=>decide (f.Exp<=g.Exp)&&decide (f.At=g.At)
theorem z7e {α:Type} (e:α->TT) (he:∀ a b,e a=e b->a=b):Ord3 λa b=>z8 (e a) (e b) where
 eq x y:=⟨λh=>he _ _ (zr1 _ _ h),λh=>by subst h; exact zAu _⟩
 swap x y:=by rw [zfV (e x) (e y)]; omega
 trans x y z h1 h2:=by
  have h3:z8 (e x) (e z)<=0:=zsp _ _ _ (Int.le_of_lt h1) (Int.le_of_lt h2);by_cases h4:z8 (e x) (e z)=0
  ·have h5:=zr1 _ _ h4;rw [h5,zfV (e y) (e z)] at h1;omega
  ·omega
abbrev z9V (l:yC):Prop:=l.Pairwise λf g=>z8 (zdZ f.At) (zdZ g.At)<0
theorem z9V.uniq {l:yC} (h:z9V l):∀ f∈l,∀ g∈l,f.At=g.At->f=g:=by
 induction l with
 | nil=>intro f hf; cases hf
 | cons x r ih=>
  have h:=qi.1 h
  have ne:∀ g∈r,x.At≠g.At:=λg hg e=>by
   have:=h.1 g hg;rw [e,zAu] at this; omega
  intro f hf g hg e;rcases qd.1 hf with e1 | hf1
  ·rcases qd.1 hg with e2 | hg1
   ·rw [e1,e2]
   ·rw [e1] at e; exact absurd e (ne g hg1)
  ·rcases qd.1 hg with e2 | hg1
   ·rw [e2] at e; exact absurd e.symm (ne f hf1)
   ·exact ih h.2 f hf1 g hg1 e
def cL (a b:yC):Int:=z8 (.l (zbr a)) (.l (zbr b))
theorem zbeM:Ord3 cL:=z7e (λa=>.l (zbr a)) λa b h=>zzV _ _ (TT.l.inj h)
structure Canon (a:yB):Prop where
 asc:a.Pairwise λt u=>cL t.Fs u.Fs<0
 fac:∀ t∈a,z9V t.Fs
theorem Canon.tail {t:Term} {a:yB} (h:Canon (t::a)):Canon a:=⟨(qi.1 h.asc).2,λx hx=>h.fac x (by simp [hx])⟩
theorem Canon.uniq {a:yB} (h:Canon a):∀ t∈a,∀ u∈a,t.Fs=u.Fs->t=u:=by
 have hp:=h.asc;clear h;induction a with
 | nil=>intro t ht; cases ht
 | cons x r ih=>
  have hp:=qi.1 hp
  have ne:∀ g∈r,x.Fs≠g.Fs:=λg hg e=>by
   have:=hp.1 g hg;rw [e,zbeM.refl] at this; omega
  intro f hf g hg e;rcases qd.1 hf with e1 | hf1
  ·rcases qd.1 hg with e2 | hg1
   ·rw [e1,e2]
   ·rw [e1] at e; exact absurd e (ne g hg1)
  ·rcases qd.1 hg with e2 | hg1
   ·rw [e2] at e; exact absurd e.symm (ne f hf1)
   ·exact ih hp.2 f hf1 g hg1 e
def leS (a b:yB):Bool:=a.all λt=>b.any λu=>dvF u.Fs t.Fs
theorem zbcf {a b:yB}:leS a b=true↔∀ t∈a,∃ u∈b,dvF u.Fs t.Fs=true:=by
 unfold leS;simp only [List.all_eq_true,List.any_eq_true]
def zbaM (a b s:yB):Prop:=∀ l:yC,(∃ t∈s,t.Fs=l)↔(∃ t∈a,t.Fs=l)\/∃ t∈b,t.Fs=l
theorem zbaM.le {a b s c:yB} (h:zbaM a b s):leS s c=true↔leS a c=true/\leS b c=true:=by
 simp only [zbcf];constructor
 ·intro hs;refine ⟨λt ht=> ?_,λt ht=> ?_⟩
  ·obtain ⟨t',ht',e⟩:=(h t.Fs).2 (.inl ⟨t,ht,rfl⟩);rw [<- e]; exact hs t' ht'
  ·obtain ⟨t',ht',e⟩:=(h t.Fs).2 (.inr ⟨t,ht,rfl⟩);rw [<- e]; exact hs t' ht'
 ·rintro ⟨h1,h2⟩ t ht
  rcases (h t.Fs).1 ⟨t,ht,rfl⟩ with ⟨u,hu,e⟩ | ⟨u,hu,e⟩
  ·rw [<- e]; exact h1 u hu
  ·rw [<- e]; exact h2 u hu
theorem zbei (a b:yC):cL a b=zbn (zbr a) (zbr b):=by unfold cL; rw [z8]
theorem PA.canon {a:yB} (h:PA a):Canon a:=⟨h.1.imp λ{x y} hxy=>by rw [zbei]; exact hxy,λt ht=>(h.2 t ht).2.1⟩
theorem zbbp {t:Term} {l:yB} (h:Srs l) (L:yC):(∃ y∈zg1 t l,y.Fs=L)↔(∃ x∈l,x.Fs=L)\/t.Fs=L:=by
 constructor
 ·rintro ⟨y,hy,rfl⟩
  rcases (zyy h).1 hy with ⟨h1,_⟩ | ⟨h1,_⟩
  ·exact .inl ⟨y,h1,rfl⟩
  ·exact .inr h1.symm
 ·intro hh;by_cases e:t.Fs=L
  ·subst e;by_cases hx:∃ x∈l,x.Fs=t.Fs
   ·obtain ⟨x,hx,e⟩:=hx;exact ⟨⟨zsT x.Cf t.Cf,t.Fs⟩,(zyy h).2 (.inr ⟨rfl,.inl ⟨x,hx,e,rfl⟩⟩),rfl⟩
   ·exact ⟨t,(zyy h).2 (.inr ⟨rfl,.inr ⟨λx hx' e=>hx ⟨x,hx',e⟩,rfl⟩⟩),rfl⟩
  ·rcases hh with ⟨x,hx,rfl⟩ | hh
   ·exact ⟨x,(zyy h).2 (.inl ⟨hx,λe'=>e e'.symm⟩),rfl⟩
   ·exact absurd hh e
theorem zZA:∀ (b a:yB),Srs a->∀ L,(∃ y∈zcp a b,y.Fs=L)↔(∃ x∈a,x.Fs=L)\/∃ x∈b,x.Fs=L
 | [],a,h,L=>by
  show (∃ y∈a,y.Fs=L)↔_;simp
 | t::r,a,h,L=>by
  show (∃ y∈zcp (zg1 t a) r,y.Fs=L)↔_;rw [zZA r _ (zyF h) L,zbbp h];simp only [qd,exists_eq_or_imp];constructor
  ·rintro ((h1 | h1) | h1)
   ·exact .inl h1
   ·exact .inr (.inl h1)
   ·exact .inr (.inr h1)
  ·rintro (h1 | h1 | h1)
   ·exact .inl (.inl h1)
   ·exact .inl (.inr h1)
   ·exact .inr h1
def GP {α:Type} (P:α->Prop):Int⊕α->Prop
 | .inl _=>True
 | .inr a=>P a
theorem zB6 {α β:Type} {P:α->Prop} {Q:β->Prop} {x:Int⊕α} {k:α->Int⊕β} (hx:GP P x) (hk:∀ a,P a->GP Q (k a)):GP Q (sbd x k):=by
 cases x with
 | inl e=>exact trivial
 | inr a=>exact hk a hx
theorem zU5 {P:yB->Prop} {r:yB×Int} (h:P r.1):GP P (opS r):=by
 unfold opS;split
 ·exact h
 ·exact trivial
theorem zzu {a:yB}:zbV a↔∀ t∈a,∀ f∈t.Fs,zxV f.At:=by
 rw [zEQ];exact ⟨λh t ht=>zv3.1 (h t ht),λh t ht=>zv3.2 (h t ht)⟩
theorem zxP:zbV []:=zEQ.2 λt ht=>by cases ht
theorem zQe (c:Int):zbV [⟨c,[]⟩]:=zzu.2 λt ht f hf=>by
 rw [qh] at ht; subst ht; cases hf
theorem zVa {x:At} (h:zxV x):zbV (zcF x):=zzu.2 λt ht f hf=>by
 simp only [zcF,qh] at ht; subst ht;rw [qh] at hf; subst hf; exact h
theorem zNv {a:yB} (h:zbV a):zbV (zlR a).1:=by
 unfold zlR;cases zfj a with
 | true=>exact h
 | false=>exact zxP
theorem zYi {ok:Bool} {r:yB×Int} (h:ok=true->zbV r.1):zbV (opR ok r).1:=by
 cases ok with
 | true=>exact h rfl
 | false=>exact zxP
theorem z8D {a b:yB} (hs:Srs a) (ha:zbV a) (hb:zbV b):zbV (zcp a b):=zzu.2 λt ht f hf=>by
 obtain ⟨x,hx,e⟩:=zH7 b a hs ht;rw [e] at hf;rcases hx with hx | hx
 ·exact zzu.1 ha x hx f hf
 ·exact zzu.1 hb x hx f hf
theorem zbcq {a b:yB} (ha:zbV a) (hb:zbV b):zbV (znl a b):=zzu.2 λt ht f hf=>by
 obtain ⟨x,hx,e⟩:=zH7 (zfb a b) [] List.Pairwise.nil ht;rw [e] at hf;rcases hx with hx | hx
 ·cases hx
 ·obtain ⟨u,hu,v,hv,rfl⟩:=z1q hx;obtain ⟨y,hy,e⟩:=zs5 hf;rw [e];rcases hy with hy | hy
  ·exact zzu.1 ha u hu y hy
  ·exact zzu.1 hb v hv y hy
theorem zbdG {a b:yB} (ha:zbV a) (hb:zbV b):zbV (zo8 a b).1:=zYi λhv=>by
 rw [qc] at hv;exact zNv (z8D (zDE hv.1).1 ha hb)
theorem zbc6 {a b:yB} (ha:zbV a) (hb:zbV b):zbV (zJl a b).1:=zYi λ_=>zNv (zbcq ha hb)
theorem zXd {k:Int} {l:yA} (h:∀ a∈l,zbV a):zxV ⟨k,⟨0,0⟩,l,0,[],0,⟨0,0,ByteArray.mk #[]⟩⟩:=(zBw _).2 ⟨by simp,zyG.2 h,zww.2 λw hw=>by cases hw⟩
theorem zbcX {a b:yB} (ha:zbV a) (hb:zbV b):zbV (zPs a b).1:=zYi λ_=>by
 split
 ·exact ha
 ·split
  ·exact zxP
  ·refine zNv (zVa (zXd λx hx=> ?_))
   simp only [qd,List.not_mem_nil,or_false] at hx;rcases hx with rfl | rfl
   ·exact ha
   ·exact hb
theorem zbcN {a:yB} (ha:zbV a):zbV (zPh a).1:=zYi λ_=>by
 split
 ·exact ha
 ·split
  ·exact zQe 1
  ·refine zNv (zVa (zXd λx hx=> ?_))
   rw [qh] at hx; subst hx; exact ha
theorem zbc7 {a:yB} (ha:zbV a):zbV (zP9 a).1:=zYi λ_=>by
 split
 ·exact zQe 1
 ·split
  ·exact zxP
  ·refine zNv (zVa (zXd λx hx=> ?_))
   rw [qh] at hx; subst hx; exact ha
theorem zbcv {f o:Int} {l:yD} {b:Value} (hl:l.length<20) (h:∀ w∈l,zbV w.Ann):zbV (zxe f l o b).1:=by
 unfold zxe;cases (!(zzk f l o b&&l.all λw=>zS w.Ann)) with
 | true=>exact zxP
 | false=>
  cases decide (0<(zdT l).length) with
  | true=>
   refine zNv (zVa ((zBw _).2 ⟨?_,zyG.2 λa ha=>(by cases ha),zww.2 λw hw=>h w (zG1 hw).1⟩))
   have h1:(zdT l).length=(l.filter zl1).length:=(zo0 _ _).length_eq;have h2:=List.length_filter_le zl1 l;show (zdT l).length<20;omega
  | false=>
   cases (f==0&&zMB o (zeb 0 b.Int)) with
   | true=>exact zQe 1
   | false=>exact zxP
theorem z8k {b:yB} (hb:zbV b):∀ (n:Nat) (p:yB),zbV p->GP zbV (zzY b n p)
 | 0,p,hp=>hp
 | n+1,p,hp=>zB6 (zU5 (zbc6 hp hb)) λq hq=>z8k hb n q hq
theorem zbdD (n:Int):zbV (zz5 n):=by
 unfold zz5;split
 ·exact zxP
 ·exact zQe _
theorem z5W {l:yA} (h:∀ a∈l,zbV a) (i:Nat):zbV (l.getD i default):=by
 by_cases hi:i<l.length
 ·exact h _ (zm hi)
 ·rw [List.getD_eq_getElem?_getD,List.getElem?_eq_none (by omega)]; exact zxP
section
variable {to:RowID->yB} (ht:∀ r,zbV (to r))
include ht
mutual
theorem z7p:∀ x:At,zxV x->GP zbV (zhN to x)
 | ⟨k,r,a,f,i,o,b⟩=>λh=>by
  obtain ⟨h1,h2,h3⟩:=(zBw _).1 h;rw [zhN];split
  ·exact ht r
  ·refine zB6 (zYL a (zyG.1 h2)) λxs hxs=> ?_
   have g0:=z5W hxs 0;have g1:=z5W hxs 1;split
   ·exact zU5 (zbcX g0 g1)
   ·split
    ·exact zU5 (zbcN g0)
    ·split
     ·exact zU5 (zbc7 g0)
     ·refine zB6 (zWu i (zww.1 h3)) λis his=>zU5 (zbcv ?_ his.2)
      rw [his.1]; exact h1
theorem zQ3:∀ l:yC,(∀ f∈l,zxV f.At)->∀ p,zbV p->GP zbV (zeB to l p)
 | [],_,p,hp=>by rw [zeB]; exact hp
 | ⟨x,e⟩::r,h,p,hp=>by
  rw [zeB];exact zB6 (z7p x (h ⟨x,e⟩ (by simp))) λb hb=>zB6 (z8k hb _ p hp) λq hq=>zQ3 r (λf hf=>h f (by simp [hf])) q hq
theorem zUT:∀ a:yB,(∀ t∈a,∀ f∈t.Fs,zxV f.At)->∀ s,zbV s->GP zbV (zdC to a s)
 | [],_,s,hs=>by rw [zdC]; exact hs
 | ⟨c,fs⟩::r,h,s,hs=>by
  rw [zdC];exact zB6 (zQ3 fs (h ⟨c,fs⟩ (by simp)) _ (zbdD c)) λp hp=>zB6 (zU5 (zbdG hs hp)) λq hq=>zUT r (λt ht=>h t (by simp [ht])) q hq
theorem zYL:∀ l:yA,(∀ a∈l,zbV a)->GP (λr:yA=>∀ a∈r,zbV a) (zkv to l)
 | [],_=>by rw [zkv]; exact λa ha=>by cases ha
 | a::r,h=>by
  rw [zkv];refine zB6 (zUT a (zzu.1 (h a (by simp))) [] zxP) λb hb=>zB6 (zYL r λc hc=>h c (by simp [hc])) λl hl=> ?_
  intro x hx;rcases qd.1 hx with rfl | hx
  ·exact hb
  ·exact hl x hx
theorem zWu:∀ l:yD,(∀ w∈l,zbV w.Ann)->GP (λr:yD=>r.length=l.length/\∀ w∈r,zbV w.Ann) (zhv to l)
 | [],_=>by rw [zhv]; exact ⟨rfl,λa ha=>by cases ha⟩
 | ⟨v,a⟩::r,h=>by
  rw [zhv];refine zB6 (zUT a (zzu.1 (h ⟨v,a⟩ (by simp))) [] zxP) λb hb=>zB6 (zWu r λc hc=>h c (by simp [hc])) λl hl=> ?_
  refine ⟨by simp [hl.1],λx hx=> ?_⟩
  rcases qd.1 hx with rfl | hx
  ·exact hb
  ·exact hl.2 x hx
end
end
section
variable {σ:At->yB}
end
end Go.Proofs.YtoknknbmfmddbaaGreatDoor
/- Relations: the normal form, by the program. -/
set_option maxRecDepth 100000
namespace Go.Proofs.YtoknknbmfmddbaaGreatDoor
open Go Go.Ab
def zc8 (x:Row):Bool:= !(x.Ann.length==0)
theorem z1t {α:Type} [Inhabited α] (P:α->Bool):∀ (l:List α) (i:Nat),(∃ j:Nat,ixf P l i=((i+j:Nat):Int)/\j<l.length/\P (l.getD j default)=true/\∀ x∈l.take j,P x=false)\/(ixf P l i= -1/\∀ x∈l,P x=false)
 | [],i=>.inr ⟨rfl,λx h=>by cases h⟩
 | y::l,i=>by
  rw [ixf];cases e:P y with
  | true=>exact .inl ⟨0,rfl,by simp,e,λx h=>by cases h⟩
  | false=>
   rw [cond_false];rcases z1t P l (i+1) with ⟨j,h1,h2,h3,h4⟩ | ⟨h1,h2⟩
   ·refine .inl ⟨j+1,by rw [h1]; congr 1; omega,by simp; omega,h3,λx hx=> ?_⟩
    rw [List.take_succ_cons] at hx;rcases qd.1 hx with rfl | hx
    ·exact e
    ·exact h4 x hx
   ·refine .inr ⟨h1,λx hx=> ?_⟩
    rcases qd.1 hx with rfl | hx
    ·exact e
    ·exact h2 x hx
theorem z8Z (x:Row):(zhw x).2= !zc8 x:=by
 unfold zc8; rw [Bool.not_not];exact zr6 _ 0
theorem zTP:∀ (n i j:Nat) (s:yF),s.length<=1000000->s.length<j+n->j<=s.length->i<=j->
  ∃ (i':Nat) (s':yF),zhn n i j s=(true,((i':Int),s'))/\s'.length=s.length/\i'<=s.length/\s'.take i'=s.take i++(s.drop j).filter zc8
 | 0,i,j,s,hs,h,h2,h3=>by omega
 | n+1,i,j,s,hs,h,h2,h3=>by
  show ∃ (i':Nat) (s':yF),(zhl i j s).ev (λx y=>zhn n x.2.2.1 x.2.2.2.1 y.1) (λr=>(true,r)) (false,default)=_/\_
  unfold zhl;by_cases hj:j<s.length
  ·have hi:i<s.length:=by omega
   simp only [Wy.ev_i,Wy.ev_k,Wy.ev_h,Wy.ev_bn,Wy.ev_d,tT,hj,hi,z8Z];rw [zbh hj];cases hx:zc8 (s.getD j default) with
   | false=>
    simp only [List.filter_cons,hx,Bool.not_false,Bool.not_true,cond_false,Bool.false_eq_true,if_false];rw [zy (by omega)]
    exact zTP n i (j+1) s hs (by omega) (by omega) (by omega)
   | true=>
    simp only [List.filter_cons,hx,Bool.not_false,Bool.not_true,cond_true,if_true];rw [zy (by omega),zy (by omega)]
    obtain ⟨i',s',h4,h5,h6,h7⟩:=zTP n (i+1) (j+1) (s.set i (s.getD j default)) (by simpa using hs) (by simp; omega) (by simp; omega) (by omega)
    refine ⟨i',s',h4,by simpa using h5,by simpa using h6, ?_⟩
    rw [h7,z2o _ hi,z5D _ (by omega)]
    simp
  ·simp only [Wy.ev_i,Wy.ev_k,Wy.ev_h,Wy.ev_bn,Wy.ev_d,tT,hj];exact ⟨i,s,rfl,rfl,by omega,by rw [zcu hj]; simp⟩
theorem z71 (s:yF) (hs:s.length<=1000000):zee s=(true,s.filter zc8):=by
 unfold zee zm1
 have hix:zdL s=(true,ixf (λx=> !zc8 x) s 0):=by
  have:zdL s=IH (λ(_:Unit) x=>(true,(zhw x).2)) (s.length+(Int.ofNat s.length).toNat +Int.toNat (0:Int)+(1000:Nat)) () s:=rfl
  exact this.trans (z7J _ _ _ _ _ (by omega) (λx _=>by rw [z8Z]) (by omega))
 rw [Wy.fin_bn,hix,cond_true];rcases z1t (λx=> !zc8 x) s 0 with ⟨j,h1,h2,h3,h4⟩ | ⟨h1,h2⟩
 ·rw [h1,Nat.zero_add];have e:((j:Int)== -1)=false:=by simp
  rw [Wy.fin_i,e,cond_false,Wy.fin_bn,zy (by omega)]
  obtain ⟨i',s',h5,h6,h7,h8⟩:=zTP ((j:Int).toNat +((j+1:Nat):Int).toNat +s.length+(1000:Nat)) j (j+1) s hs (by simp; omega) (by omega) (by omega)
  rw [h5];have h7':i'<=s'.length:=by omega
  have e2:i'+(s'.length - i')<=s'.length:=by omega
  have e3:i'<=(List.take i' s'++List.replicate (s'.length - i') (Row.mk [] [])++List.drop (i'+(s'.length - i')) s').length:=by simp; omega
  simp only [Wy.fin_i,Wy.fin_k,Int.ofNat_eq_natCast,Int.toNat_natCast,zez,zuf,h7',e2,e3,Nat.le_refl,decide_true,Bool.and_self,cond_true,Int.le_refl,Int.toNat_zero,Nat.sub_zero];rw [z7E _ h7',h8];congr 1;have h3':zc8 (s.getD j default)=false:=by simpa using h3
  conv=>rhs; rw [<- List.take_append_drop j s,List.filter_append,zbh h2,List.filter_cons]
  simp only [h3',Bool.false_eq_true,if_false];congr 1;refine (List.filter_eq_self.2 λx hx=> ?_).symm
  have:=h4 x hx
  simpa using this
 ·rw [h1];rw [Wy.fin_i,show ((-1:Int)== -1)=true from rfl,cond_true,Wy.fin_k]
  congr 1;exact (List.filter_eq_self.2 λx hx=>by simpa using h2 x hx).symm
def cR (x y:Row):Int:=ztA x.Values y.Values
def zc5 (x y:Row):Option Row:=if (zo8 x.Ann y.Ann).2=0 then some ⟨x.Values,(zo8 x.Ann y.Ann).1⟩ else none
def zhb (x:Row):Prop:=x.Values.length<=1000000/\okA x.Ann/\zS x.Ann=true
theorem zbai:MO cR zc5 zhb where
 anti:=λx y _ _=>by unfold cR; have:=zoF x.Values y.Values; omega
 trans:=λx y z _ _ _ h1 h2=>zLZ h1 h2
 key:=λx y z hx hy e=>by
  unfold zc5 at e;split at e
  ·rename_i h0;rw [qa] at e;subst e;obtain ⟨⟨_,_,v3⟩,e3⟩:=z8r h0;refine ⟨⟨hx.1,(z0w hx.2.1 hy.2.1).1,by show zS (zo8 x.Ann y.Ann).1=true; rw [e3]; exact v3⟩,λw _=>⟨rfl,rfl⟩⟩
  ·cases e
theorem zbbQ {x y:Row} (hx:zhb x) (hy:zhb y) (h:¬ (zo8 x.Ann y.Ann).2=0):(zo8 x.Ann y.Ann).2=6:=by
 unfold zo8 opR zlR at *;rw [hx.2.2,hy.2.2] at h ⊢;simp only [Bool.and_self,cond_true] at h ⊢;cases hw:zfj (zcp x.Ann y.Ann) with
 | true=>rw [hw] at h; exact absurd rfl h
 | false=>rfl
theorem zTy {x:Row} (hx:zhb x) (hs:zbV x.Ann):zni x x.Ann=(true,x):=by
 unfold zni zGX zfJ;rw [Wy.fin_bn,z0y hx.2.1 (λ_=>hs) ⟨by simp,λb hb=>by cases hb⟩,cond_true,Wy.fin_bn,decide_eq_true (zs1 (by have:=hx.1; omega) (by omega)),cond_true,Wy.fin_k]
 unfold zbaw opR;rw [hx.2.2];show (true,Row.mk x.Values (ofS (zdC (toA []) x.Ann [])).1)=_;rw [show toA []=zvb from rfl,zbdN hx.2.2]; rfl
theorem z6a (cols:yH) (S:yF) (hS:S.length<=1000) (hV:∀ x∈S,zhb x/\zbV x.Ann):∀ (n i:Nat) (o:yF),S.length<i+n->i<=S.length->o.length<=i->(∀ w∈o,zhb w)->
  zzG n S.length i S cols o=(true,match (S.drop i).foldl (zO1 cR zc5) (some o) with | none=>.inl 6 | some M=>.inr (cols,M))
 | 0,i,o,h1,h2,h3,h4=>by omega
 | n+1,i,o,h1,h2,h3,h4=>by
  show (zs4 S.length i S cols o).ev (zx zte (.inl default) n) (λr=>(true,r)) (false,.inl default)=_
  unfold zs4;by_cases hi:i<S.length
  ·obtain ⟨hx,hsm⟩:=hV _ (zm hi);have hcp:=zTy hx hsm;obtain ⟨x,ex⟩:∃ x,x=S.getD i default:=⟨_,rfl⟩;rw [<- ex] at hx hsm hcp;rw [zbh hi,List.foldl_cons, <- ex];have ih:=λo'=>z6a cols S hS hV n (i+1) o' (by omega) (by omega)
   have hr:∀ r:Row,decide ((o.length+[r].length)*(48:Nat)<=zI)=true:=λr=>decide_eq_true (zs1 (by simp; omega) (by omega))
   rcases List.eq_nil_or_concat o with rfl | ⟨o',w,rfl⟩
   ·simp only [Wy.ev_i,Wy.ev_k,Wy.ev_h,Wy.ev_bn,Wy.ev_d,tT,hi, <- ex,hcp,hr,zy (show i<4611686018427387904 by omega),List.length_nil]
    exact ih [x] (by simp) λw hw=>by rw [qh.1 hw]; exact hx
   ·rw [List.concat_eq_append] at *;have hw:=h4 w (by simp)
    have hlen:(o'++[w]).length=o'.length+1:=by simp
    have h0:((((o'++[w]).length:Nat):Int)==(0:Int))=false:=by rw [zf8,decide_eq_false_iff_not,hlen]; omega
    have w1:IntKind.i64.wrap ((((o'++[w]).length:Nat):Int) - (1:Int))=(o'.length:Int):=by rw [hlen,ze5 (by simp at h3; omega) (by simp at h3; omega)]; omega
    have g1:o'.length<(o'++[w]).length:=by omega
    have g2:(o'++[w]).getD o'.length default=w:=z3l o' [] w;have hc:zcq w x=(true,cR w x):=zev w x hw.1;have hset:∀ v,(o'++[w]).set o'.length v=o'++[v]:=λv=>z3P o' [] w v
    have hm:zO1 cR zc5 (some (o'++[w])) x=if cR w x=0 then (zc5 w x).map λz=>o'++[z] else some (o'++[w]++[x]):=by
     unfold zO1;simp only [List.getLast?_append,List.getLast?_singleton,Option.some_or,List.dropLast_concat]
    rw [hm];simp only [Wy.ev_i,Wy.ev_k,Wy.ev_h,Wy.ev_bn,Wy.ev_d,tT,hi,h0,w1,g1,g2, <- ex,hc,hcp,hr,zry,zy (show i<4611686018427387904 by omega),(z9o hw.2.1 hx.2.1).1,hset]
    by_cases e:cR w x=0
    ·rw [if_pos e,decide_eq_true e,Bool.not_true,cond_false];by_cases e2:(zo8 w.Ann x.Ann).2=0
     ·have ea:zc5 w x=some ⟨w.Values,(zo8 w.Ann x.Ann).1⟩:=by unfold zc5; rw [if_pos e2]
      rw [ea,decide_eq_true e2,Bool.not_true,cond_false,Option.map_some]
      exact ih (o'++[⟨w.Values,(zo8 w.Ann x.Ann).1⟩]) (by simp at h3 ⊢; omega) λv hv=>by
       rcases List.mem_append.1 hv with hv | hv
       ·exact h4 v (by simp [hv])
       ·rw [qh.1 hv]; exact (zbai.key w x _ hw hx ea).1
     ·have ea:zc5 w x=none:=by unfold zc5; rw [if_neg e2]
      rw [ea,decide_eq_false e2,Bool.not_false,cond_true,Option.map_none,zTB,zbbQ hw hx e2]
    ·rw [if_neg e,decide_eq_false e,Bool.not_false,cond_true]
     exact ih (o'++[w]++[x]) (by simp at h3 ⊢; omega) λv hv=>by
      rcases List.mem_append.1 hv with hv | hv
      ·exact h4 v hv
      ·rw [qh.1 hv]; exact hx
  ·simp only [Wy.ev_i,Wy.ev_k,Wy.ev_h,Wy.ev_bn,Wy.ev_d,tT,hi,zcu hi,List.foldl_nil]
def zzX (cols:yH):yF->Int
 | []=>0
 | x::r=>bif !zsy cols x.Values then 7 else bif !zS x.Ann then 1 else zzX cols r
def zD4 (r:Relation):Relation×Int:=
 if zD1 r.Columns=false then (⟨[],[]⟩,1) else
 if zzX r.Columns r.Rows=0 then
  match (r.Rows.filter zc8).foldl (λo x=>o.bind λM=>zd3 cR zc5 M x) (some []) with
  | none=>(⟨[],[]⟩,6)
  | some M=>(⟨r.Columns,M⟩,0)
 else (⟨[],[]⟩,zzX r.Columns r.Rows)
structure okRel (r:Relation):Prop where
 cols:r.Columns.length<=1000000
 rows:r.Rows.length<20
 row:∀ x∈r.Rows,x.Values.length<=1000000/\okA x.Ann/\(zS x.Ann=true->zbV x.Ann)
theorem z4T (r:Relation) (h:okRel r):∀ (n i:Nat),r.Rows.length<i+n->i<=r.Rows.length->zA4 n r.Rows r.Rows.length i r=(true,if zzX r.Columns (r.Rows.drop i)=0 then .inr r else .inl (zzX r.Columns (r.Rows.drop i)))
 | 0,i,h1,h2=>by omega
 | n+1,i,h1,h2=>by
  show (ztN r.Rows r.Rows.length i r).ev (zx ztW (.inl default) n) (λr=>(true,r)) (false,.inl default)=_
  unfold ztN;have hl:=h.rows;by_cases hi:i<r.Rows.length
  ·obtain ⟨k1,k2,k3⟩:=h.row _ (zm hi);simp only [Wy.ev_i,Wy.ev_k,Wy.ev_h,Wy.ev_bn,Wy.ev_d,tT,hi,zZZ _ _ h.cols,k2.valid,zy (show i<4611686018427387904 by omega)]
   rw [zbh hi,zzX];cases zsy r.Columns (r.Rows.getD i default).Values with
   | false=>rfl
   | true=>
    cases zS (r.Rows.getD i default).Ann with
    | false=>rfl
    | true=>exact z4T r h n (i+1) (by omega) (by omega)
  ·simp only [Wy.ev_i,Wy.ev_k,Wy.ev_h,Wy.ev_bn,Wy.ev_d,tT,hi,zcu hi];rfl
theorem zPm {cols:yH}:∀ {l:yF},zzX cols l=0->∀ x∈l,zsy cols x.Values=true/\zS x.Ann=true
 | [],_,x,hx=>by cases hx
 | y::l,h,x,hx=>by
  rw [zzX] at h;cases h1:zsy cols y.Values with
  | false=>rw [h1] at h; cases h
  | true=>
   cases h2:zS y.Ann with
   | false=>rw [h1,h2] at h; cases h
   | true=>
    rw [h1,h2] at h;rcases qd.1 hx with rfl | hx
    ·exact ⟨h1,h2⟩
    ·exact zPm h x hx
theorem zbdB:OW λx:Row=>x.Values.length<=1000000 where
 ends := λx y hx _ => ⟨_, zev x y hx⟩
 asym:=λx y hx hy h1 h2=>by
  unfold ltW at h1 h2;rw [zev x y hx] at h1;rw [zev y x hy] at h2;have:=zoF x.Values y.Values;simp only at h1 h2; omega
 ntr:=λx y z hx hy hz h1 h2 h3=>by
  unfold ltW at h1 h2 h3;rw [zev x _ hx] at h1 h3;rw [zev y z hy] at h2;simp only at h1 h2 h3;have a1:=zoF x.Values y.Values;have a2:=zoF y.Values z.Values;have a3:=zoF x.Values z.Values;have:=zLZ (x:=z.Values) (y:=y.Values) (z:=x.Values) (by omega) (by omega)
  omega
theorem z1I:∀ (x:Row) (l:yF),x.Values.length<=1000000->zz3 x l=zxE cR x l
 | x,[],_=>rfl
 | x,y::r,hx=>by
  rw [zz3,zxE,zev x y hx];show (if cR x y<0 then _ else _)=_
  split
  ·rfl
  ·rw [z1I x r hx]
theorem z4v:∀ (l s:yF),(∀ x∈l,x.Values.length<=1000000)->l.foldl (λs x=>zz3 x s) s=l.foldl (λs x=>zxE cR x s) s
 | [],s,_=>rfl
 | x::l,s,h=>by
  rw [List.foldl_cons,List.foldl_cons,z1I x s (h x (by simp))]
  exact z4v l _ λy hy=>h y (by simp [hy])
theorem z5f {ρ:Type} {c:ρ->ρ->Int} {add:ρ->ρ->Option ρ}:∀ {M N:List ρ} {x:ρ},zd3 c add M x=some N->N.length<=M.length+1
 | [],N,x,h=>by rw [zd3,qa] at h; subst h; simp
 | y::M,N,x,h=>by
  rw [zd3] at h;split at h
  ·cases e:zd3 c add M x with
   | none=>rw [e] at h; cases h
   | some K=>
    rw [e,Option.map_some,qa] at h;have:=z5f e;subst h; simp; omega
  ·split at h
   ·cases e:add y x with
    | none=>rw [e] at h; cases h
    | some z=>rw [e,Option.map_some,qa] at h; subst h; simp
   ·rw [qa] at h; subst h; simp
theorem zFA {ρ:Type} {c:ρ->ρ->Int} {add:ρ->ρ->Option ρ}:∀ l:List ρ,l.foldl (λo x=>o.bind λM=>zd3 c add M x) none=none
 | []=>rfl
 | _::l=>zFA l
theorem zXo {ρ:Type} {c:ρ->ρ->Int} {add:ρ->ρ->Option ρ}:∀ {l M N:List ρ},l.foldl (λo x=>o.bind λM=>zd3 c add M x) (some M)=some N->N.length<=M.length+l.length
 | [],M,N,h=>by rw [List.foldl_nil,qa] at h; subst h; simp
 | x::l,M,N,h=>by
  rw [List.foldl_cons,Option.bind_some] at h;cases e:zd3 c add M x with
  | none=>rw [e,zFA] at h; cases h
  | some K=>
   rw [e] at h;have h1:=z5f e;have h2:=zXo h;simp only [qf]; omega
theorem zI6 (r:Relation) (h:okRel r):zhX r=(true,zD4 r):=by
 unfold zhX zB3 zD4;have hl:=h.rows;have hc:=z4T r h (r.Rows.length+(Int.ofNat r.Rows.length).toNat +Int.toNat (0:Int)+r.Columns.length+r.Rows.length+(1000:Nat)) 0 (by omega) (by omega)
 rw [show ((0:Nat):Int)=(0:Int) from rfl,List.drop_zero] at hc
 rw [show (r.Rows.length:Int)=Int.ofNat r.Rows.length from rfl] at hc
 rw [Wy.fin_bn,zK8 _ h.cols,cond_true,Wy.fin_i];cases hcol:zD1 r.Columns with
 | false=>rfl
 | true=>
  rw [Bool.not_true,cond_false,Wy.fin_bn,hc,cond_true,if_neg (show ¬ (true=false) by decide)]
  by_cases hk:zzX r.Columns r.Rows=0
  ·rw [if_pos hk,if_pos hk];have hv:=zPm hk;have hfl:(r.Rows.filter zc8).length<20:=Nat.lt_of_le_of_lt (List.length_filter_le _ _) hl
   have hfm:∀ x∈r.Rows.filter zc8,zhb x/\zbV x.Ann:=λx hx=>by
    have hm:=(List.mem_filter.1 hx).1;obtain ⟨k1,k2,k3⟩:=h.row x hm;exact ⟨⟨k1,k2,(hv x hm).2⟩,k3 (hv x hm).2⟩
   have hclR:ze9 r.Rows=(true,r.Rows):=by
    unfold ze9;rw [decide_eq_true (zs1 (by omega) (by omega))]
   have hclC:zdU r.Columns=(true,r.Columns):=by
    unfold zdU;rw [decide_eq_true (zs1 (by have:=h.cols; omega) (by omega))]
   have hsort:=zbbf zbdB (l:=r.Rows.filter zc8) (λx hx=>(hfm x hx).1.1) hfl
   have hperm:(zHX (r.Rows.filter zc8)).Perm (r.Rows.filter zc8):=(zWN zbdB (r.Rows.filter zc8) [] (λx hx=>(hfm x hx).1.1) .nil).2.perm
   have hloop:=z6a r.Columns (zHX (r.Rows.filter zc8)) (by rw [hperm.length_eq]; omega) (λx hx=>hfm x (hperm.mem_iff.1 hx)) ((Int.ofNat (zHX (r.Rows.filter zc8)).length).toNat +Int.toNat (0:Int)+(zHX (r.Rows.filter zc8)).length+r.Columns.length+(0:Nat)+(1000:Nat)) 0 [] (by omega) (by omega) (by simp) (λw hw=>by cases hw)
   rw [show ((0:Nat):Int)=(0:Int) from rfl,List.drop_zero,zbbB] at hloop
   have hmm:mrg cR zc5 (zHX (r.Rows.filter zc8))=(r.Rows.filter zc8).foldl (λo x=>o.bind λM=>zd3 cR zc5 M x) (some []):=by
    unfold zHX;rw [z4v _ _ λx hx=>(hfm x hx).1.1]
    exact z4y zbai (r.Rows.filter zc8) [] (λx hx=>(hfm x hx).1) .nil
   rw [hmm] at hloop;simp only [Wy.fin_i,Wy.fin_k,Wy.fin_bn,isL,getL,getR,cond_true,cond_false,hclR,z71 _ (show r.Rows.length<=1000000 by omega),hsort,hclC]
   rw [show (((zHX (r.Rows.filter zc8)).length:Nat):Int)=Int.ofNat (zHX (r.Rows.filter zc8)).length from rfl] at hloop
   rw [hloop];cases e:(r.Rows.filter zc8).foldl (λo x=>o.bind λM=>zd3 cR zc5 M x) (some []) with
   | none=>rfl
   | some M=>
    have:=zXo e
    have hM:decide (Int.ofNat M.length>(1024:Int))=false:=by
     rw [show decide (Int.ofNat M.length>(1024:Int))=decide (M.length>1024) from zjQ _ 1024]
     exact decide_eq_false (by simp at this; omega)
    simp only [isL,getR,cond_true,cond_false];show (bif decide (Int.ofNat M.length>(1024:Int)) then _ else _)=_
    rw [hM]; rfl
  ·rw [if_neg hk,if_neg hk]; rfl
end Go.Proofs.YtoknknbmfmddbaaGreatDoor
namespace Go.Proofs.YtoknknbmfmddbaaGreatDoor
open Go Go.Ab
end Go.Proofs.YtoknknbmfmddbaaGreatDoor
end
