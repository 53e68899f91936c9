/- Texts of this claim, joined (the program, its functions in plain words, and what they compute). -/
import Derived.Test.YtoknknbmfmddbaaGreatDoorGC10
set_option autoImplicit false
set_option linter.unusedVariables false
set_option linter.unusedSectionVars false
set_option linter.unusedSimpArgs false
set_option maxRecDepth 1000000
set_option maxHeartbeats 0
/- Substitution: the reference computes the same; the whole. -/
noncomputable section
namespace Go.Proofs.YtoknknbmfmddbaaGreatDoor
open Go Go.Ab
section
variable (g:At->yE->Bool×(yB×Int)) (l:yE)
end
section
variable (g:yB->yE->Bool×(yB×Int)) (l:yE)
end
theorem zZy:∀ {l:yA} {a:yB},a∈l->zej a<=zqn l
 | [],_,h=>by cases h
 | x::r,a,h=>by
  rw [zVw];rcases qd.1 h with rfl | h
  ·omega
  ·have:=zZy h; omega
theorem zW0:∀ {l:yD} {w:Wd},w∈l->zej w.Ann<=zk0 l
 | [],_,h=>by cases h
 | x::r,a,h=>by
  rw [zHG];rcases qd.1 h with rfl | h
  ·omega
  ·have:=zW0 h; omega
theorem zQe:∀ {l:yC} {f:Fc},f∈l->zE1 f.At<=zhk l
 | [],_,h=>by cases h
 | x::r,a,h=>by
  rw [zNd];rcases qd.1 h with rfl | h
  ·omega
  ·have:=zQe h; omega
theorem z2Q:∀ {l:yB} {t:Term},t∈l->zhk t.Fs<=zej l
 | [],_,h=>by cases h
 | x::r,a,h=>by
  rw [zNW];rcases qd.1 h with rfl | h
  ·omega
  ·have:=z2Q h; omega
theorem zVY:∀ {l:yD},(∀ w∈l,w.Ann≠[])->l.length<=zk0 l
 | [],_=>by simp
 | x::r,h=>by
  rw [zHG];have:=zVY (l:=r) λw hw=>h w (by simp [hw])
  have h1:1<=zej x.Ann:=by
   have:=h x (by simp)
   cases hx:x.Ann with
   | nil=>exact absurd hx this
   | cons t r=>rw [zNW]; omega
  simp only [qf];omega
mutual
def zyo:At->Prop
 | ⟨_,_,a,_,i,_,_⟩=>i.length<20/\zPL a/\zJJ i
def zBR:yC->Prop
 | []=>True
 | ⟨x,_⟩::r=>zyo x/\zBR r
def zb0:yB->Prop
 | []=>True
 | ⟨_,fs⟩::r=>zBR fs/\zb0 r
def zPL:yA->Prop
 | []=>True
 | a::r=>zb0 a/\zPL r
def zJJ:yD->Prop
 | []=>True
 | ⟨_,a⟩::r=>zb0 a/\zJJ r
end
theorem zDr (x:At):zyo x↔x.Items.length<20/\zPL x.Ag/\zJJ x.Items:=by cases x; rw [zyo]
theorem zwR:∀ {l:yC},zBR l↔∀ f∈l,zyo f.At
 | []=>by rw [zBR]; simp
 | ⟨x,e⟩::r=>by rw [zBR,zwR (l:=r)]; simp
theorem zGf:∀ {l:yB},zb0 l↔∀ t∈l,zBR t.Fs
 | []=>by rw [zb0]; simp
 | ⟨x,e⟩::r=>by rw [zb0,zGf (l:=r)]; simp
theorem zzq:∀ {l:yA},zPL l↔∀ a∈l,zb0 a
 | []=>by rw [zPL]; simp
 | a::r=>by rw [zPL,zzq (l:=r)]; simp
theorem zxh:∀ {l:yD},zJJ l↔∀ w∈l,zb0 w.Ann
 | []=>by rw [zJJ]; simp
 | ⟨x,e⟩::r=>by rw [zJJ,zxh (l:=r)]; simp
theorem z5l {m:Nat} {a:yB} (h:zbA (m+1) a=true):zfs a=true/\∀ t∈a,t.Fs.length<=64/\∀ f∈t.Fs,(1<=f.Exp/\f.Exp<=64)/\f.At.Items.length<=1024/\zd3 (zbA m) f.At=true:=by
 have hw:=zGm h;refine ⟨hw,λt ht=> ?_⟩
 obtain ⟨l1,l2⟩:=(zwk hw).2.2.2 t ht;refine ⟨l1,λf hf=> ?_⟩
 obtain ⟨⟨e1,_⟩,hv⟩:=zpC (zvu h ht).2 hf;exact ⟨⟨e1,(l2 f hf).1⟩,(l2 f hf).2,hv⟩
theorem zY2:∀ (m:Nat) (a:yB),zbA m a=true->zbA (m+1) a=true
 | 0,_,h=>by cases h
 | m+1,a,h=>by
  have h':zxP (zd3 (zbA m)) a=true:=h;obtain ⟨h1,h2,h3⟩:=zRz.1 h';refine (zRz (vat:=zd3 (zbA (m+1)))).2 ⟨h1,h2,λt ht=>⟨(h3 t ht).1,(h3 t ht).2.1,λf hf=>⟨((h3 t ht).2.2 f hf).1, ?_⟩⟩⟩
  exact zdm.2 ((zdm.1 ((h3 t ht).2.2 f hf).2).imp (zY2 m))
theorem zyy:∀ {m:Nat} {a:yB},zbA m a=true->zU a=true:=by
 intro m a h
 have key:∀ k,zbA (m+k) a=true:=λk=>by
  induction k with
  | zero=>exact h
  | succ k ih=>exact zY2 _ _ ih
 exact z9j (key 9) (by omega)
theorem zbeg {m:Nat} {x:At} (h:zd3 (zbA m) x=true) (hm:m<=99):zpg x=true:=by
 refine z0S.2 ((zdm.1 h).imp λa ha=> ?_)
 exact zyy ha
theorem zZF {V:yB->Bool} {x:At} (h:zd3 V x=true):(∀ a∈x.Ag,V a=true)/\∀ w∈x.Items,V w.Ann=true/\w.Ann≠[]:=by
 constructor
 ·cases zdm.1 h <;>simp_all
 ·cases zdm.1 h <;>simp_all
theorem z0K:∀ (m:Nat) (a:yB),zbA m a=true->zej a<=38->zb0 a
 | 0,_,h,_=>by cases h
 | m+1,a,h,hs=>by
  obtain ⟨_,w2⟩:=z5l h;refine zGf.2 λt ht=>zwR.2 λf hf=>(zDr _).2 ?_
  have hv:=((w2 t ht).2 f hf).2.2;have h1:=zQe hf;have h2:=z2Q ht;have h3:=z1Q f.At;obtain ⟨hargs,hitems⟩:=zZF hv;refine ⟨by have:=zVY λw hw=>(hitems w hw).2; omega,zzq.2 λb hb=>z0K m b (hargs b hb) (by have:=zZy hb; omega),zxh.2 λw hw=>z0K m w.Ann (hitems w hw).1 (by have:=zW0 hw; omega)⟩
theorem zba2 {l:yE} (hl:okB l):∀ n,
  (∀ m a,zbA m a=true->m<=99->zgE a->zb0 a->2*m<=n->zlg n a l=(true,ofS (zdw (toA l) a []))/\GS (zdw (toA l) a []))/\
  (∀ m x,zd3 (zbA m) x=true->m<=99->zgB x->x.Items.length<=1024->zyo x->2*m+1<=n->zh2 n x l=(true,ofS (zhP (toA l) x))/\GS (zhP (toA l) x))
 | 0=>by
  refine ⟨λm a h _ _ _ hm=> ?_,λm x _ _ _ _ _ hm=>by omega⟩
  have:m=0:=by omega
  subst this; cases h
 | n+1=>by
  obtain ⟨h1,h2⟩:=zba2 hl n;have ht:okT (toA l):=zbdk hl.2;refine ⟨λm a h h99 hw hs hm=> ?_,λm x h h99 hw hi hs hm=> ?_⟩
  ·cases m with
   | zero=>cases h
   | succ m=>
    obtain ⟨w1,w2⟩:=z5l h;obtain ⟨a1,a2,a3,a4⟩:=zwk w1;have hwt:=λt (ht:t∈a)=>zvB (ztf hw t ht)
    have hwf:=λt (ht:t∈a) f (hf:f∈t.Fs)=>(zq4 (zoc (hwt t ht).2.1 f hf)).1
    have hA:∀ t∈a,∀ f∈t.Fs,(zh2 n f.At l=(true,ofS (zhP (toA l) f.At))/\GS (zhP (toA l) f.At)):=λt ht f hf=>
     h2 m f.At ((w2 t ht).2 f hf).2.2 (by omega) (hwf t ht f hf) ((w2 t ht).2 f hf).2.1 (zwR.1 (zGf.1 hs t ht) f hf) (by omega)
    have hE:=λt (ht:t∈a) f (hf:f∈t.Fs)=>((w2 t ht).2 f hf).1
    have hok:∀ t∈a,∀ p,okA p->GS (zeA (toA l) t.Fs p):=λt ht' p hp=>zKv ht t.Fs 9 (λf hf=>⟨hwf t ht' f hf,zvZ ((w2 t ht').2 f hf).2.2 ((w2 t ht').2 f hf).2.1⟩) p hp
    have hG:GS (zdw (toA l) a []):=zRq ht a 9 hw (λt ht f hf=>zvZ ((w2 t ht).2 f hf).2.2 ((w2 t ht).2 f hf).2.1) [] zmr
    refine ⟨?_,hG⟩
    ·rw [zL6];exact zbit _ l a (by omega) (λt ht=>⟨by have:=(w2 t ht).1; omega,λf hf=>⟨⟨(hA t ht f hf).1,(hA t ht f hf).2⟩,by have:=(hE t ht f hf).1; omega,by have:=(hE t ht f hf).2; omega⟩⟩) hok
  ·have hf:=zvZ h hi;have hw':=zsD hw;have hv:=zbeg h h99;obtain ⟨h20,s1,s2⟩:=(zDr x).1 hs;obtain ⟨hargs,hitems⟩:=zZF h;have ga:=λa (ha:a∈x.Ag)=>h1 m a (hargs a ha) h99 (zjN hw'.1.1 a ha).1 (zzq.1 s1 a ha) (by omega)
   have gi:=λw (hw:w∈x.Items)=>h1 m w.Ann (hitems w hw).1 h99 (zjz hw'.2.1.1 w hw).2.1 (zxh.1 s2 w hw) (by omega)
   have sa:=zVK ht x.Ag 9 (λa ha=>(zjN hw'.1.1 a ha).1) hf.2.1
   have si:=zSc ht x.Items 9 (λw hw=>(zjz hw'.2.1.1 w hw).2.1) λw hw=>(hf.2.2 w hw).2
   refine ⟨?_,z5n ht x 9 hw hf⟩
   ·rw [zGX];exact zbfP _ l hl x ⟨hv,⟨hf.1.1,h20⟩,λa ha=>⟨(ga a ha).1,(ga a ha).2⟩,λw hw=>⟨(gi w hw).1,(gi w hw).2⟩,sa,si,hw⟩
def zbd1 (a:yB) (l:yE):yB×Int:=opR (zU a&&l.all λb=>zU b.To) (ofS (zdw (toA l) a []))
theorem zbig {l:yE} (h:okB l):zcd l=(true, !l.all λb=>zU b.To):=by
 unfold zcd zhu;have:zdx l=IG (λ(_:Unit) x=>zhZ x) (l.length+(Int.ofNat l.length).toNat +Int.toNat (0:Int)+(1:Nat)) () l:=rfl
 rw [zkD (P:=λb=> !zU b.To) (this.trans (zJB _ _ _ _ _ (by have:=h.1; omega) (λx hx=>by
  unfold zhZ zw1;rw [Wy.fin_bn,(h.2 x hx).valid]; rfl) (by omega)))]
 simp [List.all_eq_not_any_not]
theorem z3p {a:yB} {l:yE} (oa:okA a) (ha:zU a=true->zb0 a) (h:okB l):zkd a l=(true,zbd1 a l):=by
 have key:zU a=true->zy4 a l=(true,ofS (zdw (toA l) a [])):=λhv=>((zba2 h 1000).1 9 a (zZ6 hv (Nat.le_refl 9)) (by omega) oa.2.1 (ha hv) (by omega)).1
 unfold zkd zzW zbd1;simp only [Wy.fin_i,Wy.fin_bn,Wy.fin_k,oa.valid,cond_true,zbig h];cases hv:zU a with
 | false=>rfl
 | true=>
  cases (l.all λb=>zU b.To) with
  | false=>rfl
  | true=>
   simp only [Bool.not_true,cond_false,key hv,cond_true];rfl
def zbin (a b:yB):yB:=if b=[] then a else if a=[]\/a=b then [] else zcT (zbbL a b)
def zbio (a:yB):yB:=if a=[]\/isU a=true then a else if isC a=true then [⟨1,[]⟩] else zcT (z4h a)
def zbiq (a:yB):yB:=if a=[] then [⟨1,[]⟩] else if zxo a=true then [] else zcT (zbbQ a)
def zbiw (f:Int) (l:yD) (o:Int) (b:Value):yB:=
 if 0<(zdX l).length then zcT (zNI f (zdX l) o b) else if (f==0&&zNv o (zd8 0 b.Int))=true then [⟨1,[]⟩] else []
def IdP (a:yB):Prop:=a=[]\/a=[⟨1,[]⟩]\/∃ x:At,(x.Kind=3\/x.Kind=4)/\a=zcT x
def zbhh (b:yB):Nat->yB
 | 0=>[⟨1,[]⟩]
 | n+1=>zt3 b (zbhh b n)
section
variable (σ:At->yB)
def SG (x:At):Prop:=PA (σ x)/\(x.Kind=3\/x.Kind=4->IdP (σ x))
variable {σ}
def EA (σ:At->yB) (a:yB):Prop:=PA a/\∀ t∈a,∀ f∈t.Fs,SG σ f.At
theorem EA.p {a:yB} (h:EA σ a):∀ t∈a,cOK t/\∀ f∈t.Fs,SG σ f.At:=λt ht=>⟨h.1.c t ht,h.2 t ht⟩
theorem EA.sum {a b:yB} (ha:EA σ a) (hb:EA σ b):EA σ (zeO a b):=⟨zbgR ha.1 hb.1,λt ht f hf=>by
 obtain ⟨x,hx,e⟩:=zJK b a ha.1.1 ht;rw [e] at hf;rcases hx with hx | hx
 ·exact ha.2 x hx f hf
 ·exact hb.2 x hx f hf⟩
end
mutual
def zbgH (to:RowID->yB):At->yB
 | ⟨k,r,a,f,i,o,b⟩=>if k=0 then to r else if k=1 then zbin ((zWA to a).getD 0 default) ((zWA to a).getD 1 default) else if k=2 then zbio ((zWA to a).getD 0 default)
  else if k=3 then zbiq ((zWA to a).getD 0 default) else zbiw f (zbaq to i) o b
def zbdj (to:RowID->yB):yC->yB
 | []=>[⟨1,[]⟩]
 | ⟨x,e⟩::r=>zt3 (zbhh (zbgH to x) e.toNat) (zbdj to r)
def zbbi (to:RowID->yB):yB->yB->yB
 | [],s=>s
 | ⟨c,fs⟩::r,s=>zbbi to r (zeO s (zt3 [⟨c,[]⟩] (zbdj to fs)))
def zWA (to:RowID->yB):yA->yA
 | []=>[]
 | a::r=>zbbi to a []::zWA to r
def zbaq (to:RowID->yB):yD->yD
 | []=>[]
 | ⟨v,a⟩::r=>⟨v,zbbi to a []⟩::zbaq to r
end
section
variable (to:RowID->yB)
variable {to} (hto:∀ r,PA (to r))
include hto
omit hto in
theorem zbfw {c:Int} (h:1<=c/\c<=1152921504606846976):zBr c=[⟨c,[]⟩]:=by
 unfold zBr; rw [if_neg (by omega),if_neg (by omega)]
end
theorem zGP {a:yB}:zfs a=true↔a.length<=512/\zbo a<=8/\zN a<=4096/\∀ t∈a,t.Fs.length<=64/\∀ f∈t.Fs,f.Exp<=64/\f.At.Items.length<=1024:=by
 refine ⟨zwk,λ⟨h1,h2,h3,h4⟩=> ?_⟩
 unfold zfs;simp only [qc,qe];refine ⟨⟨⟨h1,h2⟩,h3⟩,List.all_eq_true.2 λt ht=> ?_⟩
 obtain ⟨h5,h6⟩:=h4 t ht;unfold zBb;rw [Bool.not_eq_true',Bool.or_eq_false_iff];refine ⟨by simp; omega, ?_⟩
 rw [List.any_eq_false];intro f hf;obtain ⟨h7,h8⟩:=h6 f hf;simp;exact ⟨h7,h8⟩
theorem z17:∀ a b:yB,zN (a++b)=zN a+zN b
 | [],b=>by rw [zwf]; simp
 | t::r,b=>by rw [List.cons_append,zfQ,zfQ,z17 r b]; omega
theorem z1U:∀ a b:yB,zbo (a++b)=max (zbo a) (zbo b)
 | [],b=>by rw [zI7]; simp
 | t::r,b=>by rw [List.cons_append,zxk,zxk,z1U r b]; omega
theorem zFT:∀ a b:yC,zbI (a++b)=zbI a+zbI b
 | [],b=>by rw [ziD]; simp
 | t::r,b=>by rw [List.cons_append,zc2,zc2,zFT r b]; omega
theorem zFX:∀ a b:yC,zdd (a++b)=max (zdd a) (zdd b)
 | [],b=>by rw [zqh]; simp
 | t::r,b=>by rw [List.cons_append,zja,zja,zFX r b]; omega
structure FB (l:yC):Prop where
 len:l.length<=64
 nes:zdd l<=8
 siz:1+l.length+zbI l<=4096
 fs:∀ f∈l,f.Exp<=64/\f.At.Items.length<=1024
theorem FB.wi {l:yC} (h:FB l) (c:Int):zfs [⟨c,l⟩]=true:=zGP.2 ⟨by simp,by rw [zxk,zI7]; have:=h.nes; simp only; omega,by rw [zfQ,zwf]; have:=h.siz; simp only; omega,λt ht=>by
 rw [qh] at ht; subst ht; exact ⟨h.len,h.fs⟩⟩
theorem FB.of {a:yB} (h:zfs a=true) {t:Term} (ht:t∈a):FB t.Fs:=by
 obtain ⟨h1,h2,h3,h4⟩:=zGP.1 h;obtain ⟨h5,h6⟩:=h4 t ht;refine ⟨h5,Nat.le_trans (z1V ht) h2, ?_,h6⟩
 have key:∀ {a:yB},t∈a->1+t.Fs.length+zbI t.Fs<=zN a:=by
  intro a;induction a with
  | nil=>intro h; cases h
  | cons u r ih=>
   intro h;rw [zfQ];rcases qd.1 h with rfl | h
   ·omega
   ·have:=ih h; omega
 have:=key ht;omega
theorem FB.app {a b:yC} (h:FB (a++b)):FB a/\FB b:=by
 obtain ⟨h1,h2,h3,h4⟩:=h;rw [qg] at h1 h3;rw [zFX] at h2;rw [zFT] at h3;exact ⟨⟨by omega,by omega,by omega,λf hf=>h4 f (by simp [hf])⟩,⟨by omega,by omega,by omega,λf hf=>h4 f (by simp [hf])⟩⟩
theorem FB.exp {P:yC} {x:At} {e j:Int} (h:FB (P++[⟨x,e⟩])) (hj:j<=64):FB (P++[⟨x,j⟩]):=by
 obtain ⟨h1,h2,h3,h4⟩:=h;rw [qg] at h1 h3;rw [zFX,zja,zqh] at h2;rw [zFT,zc2,ziD] at h3;refine ⟨by rw [qg]; exact h1,by rw [zFX,zja,zqh]; exact h2,by rw [qg,zFT,zc2,ziD]; exact h3,λf hf=> ?_⟩
 rcases List.mem_append.1 hf with hf | hf
 ·exact h4 f (by simp [hf])
 ·rw [qh] at hf; subst hf;exact ⟨hj,(h4 ⟨x,e⟩ (by simp)).2⟩
theorem OKF.app {a b:yC} (h:OKF zpg (a++b)):OKF zpg a/\OKF zpg b:=⟨⟨(List.pairwise_append.1 h.1).1,λf hf=>h.2 f (by simp [hf])⟩,⟨(List.pairwise_append.1 h.1).2.1,λf hf=>h.2 f (by simp [hf])⟩⟩
theorem OKF.exp {P:yC} {x:At} {e j:Int} (h:OKF zpg (P++[⟨x,e⟩])) (h1:1<=j) (h2:j<=e):OKF zpg (P++[⟨x,j⟩]):=by
 have hx:=h.2 ⟨x,e⟩ (by simp)
 refine ⟨List.pairwise_append.2 ⟨(List.pairwise_append.1 h.1).1,by simp,λa ha b hb=> ?_⟩,λf hf=> ?_⟩
 ·rw [qh] at hb; subst hb;exact (List.pairwise_append.1 h.1).2.2 a ha ⟨x,e⟩ (by simp)
 ·rcases List.mem_append.1 hf with hf | hf
  ·exact h.2 f (by simp [hf])
  ·rw [qh] at hf; subst hf;refine ⟨⟨h1,λhk=> ?_⟩,hx.2⟩
   have:=hx.1.2 hk;have h3:e=1:=this;show j=1;omega
theorem z2O {c:Int} {F:yC} (hc:1<=c/\c<=1152921504606846976) (hF:OKF zpg F) (hb:FB F):zU [⟨c,F⟩]=true:=zvx.2 ⟨hb.wi c,by simp,λt ht=>by
 rw [qh] at ht; subst ht; exact ⟨hc,hF⟩⟩
theorem z5o {y:Fc}:∀ {P:yC},(∀ z∈P,cF z y<0)->zbK P [y]=P++[y]
 | [],_=>by rw [zbK]; rfl
 | z::r,h=>by rw [zbK,if_pos (h z (by simp)),z5o λw hw=>h w (by simp [hw])]; rfl
theorem zWI {x:At} {j:Int} (hk:¬ (x.Kind=3\/x.Kind=4)):∀ {P:yC},(∀ z∈P,cF z ⟨x,1⟩<0)->zbK (P++[⟨x,j⟩]) [⟨x,1⟩]=P++[⟨x,j+1⟩]
 | [],_=>by
  have e:cF ⟨x,j⟩ ⟨x,1⟩=0:=cF_self' rfl;show zbK [⟨x,j⟩] [⟨x,1⟩]=[⟨x,j+1⟩];rw [zbK,e,if_neg (by omega),if_neg (by omega),if_neg hk,zbK]
 | z::r,h=>by
  show zbK (z::(r++[⟨x,j⟩])) [⟨x,1⟩]=_;rw [zbK,if_pos (h z (by simp)),zWI hk λw hw=>h w (by simp [hw])]; rfl
theorem z5c {c:Int} (hc:1<=c/\c<=1152921504606846976) (M:yC) (x:At):zt3 [⟨c,M⟩] (zcT x)=[⟨c,zbK M [⟨x,1⟩]⟩]:=by
 show zeO [] [zlS ⟨c,M⟩ ⟨1,[⟨x,1⟩]⟩]=_;unfold zlS;simp only [zbbB hc.2];rfl
section
variable {c:Int} (hc:1<=c/\c<=1152921504606846976)
include hc
theorem z8O {P:yC} {x:At} {e:Int} (hF:OKF zpg (P++[⟨x,e⟩])) (hb:FB (P++[⟨x,e⟩])) (hv:zU (zcT x)=true):
  ∀ (n j:Nat),1<=j->(j+n:Int)=e->zBg (zcT x) n [⟨c,P++[⟨x,(j:Int)⟩]⟩]=.inr [⟨c,P++[⟨x,e⟩]⟩]
 | 0,j,_,h=>by rw [show (j:Int)=e from by omega]; rfl
 | n+1,j,h1,h=>by
  have he:=(hF.2 ⟨x,e⟩ (by simp)).1
  have he64:=(hb.fs ⟨x,e⟩ (by simp)).1
  have hk:¬ (x.Kind=3\/x.Kind=4):=λhk=>by
   have:e=1:=he.2 hk;omega
  have he64:e<=64:=he64;have hj:=z2O hc (hF.exp (j:=(j:Int)) (by omega) (by omega)) (hb.exp (j:=(j:Int)) (by omega))
  have hlt:∀ z∈P,cF z ⟨x,1⟩<0:=λz hz=>(List.pairwise_append.1 hF.1).2.2 z hz ⟨x,e⟩ (by simp)
  have hp:zt3 [⟨c,P++[⟨x,(j:Int)⟩]⟩] (zcT x)=[⟨c,P++[⟨x,((j+1:Nat):Int)⟩]⟩]:=by
   rw [z5c hc,zWI hk hlt]; rfl
  unfold zBg;rw [zbam hj hv (by rw [hp]; exact (hb.exp (by omega)).wi c),hp,z80,zds]
  exact z8O hF hb hv n (j+1) (by omega) (by omega)
theorem z7Y:∀ {l:yC} {P:yC},OKF zpg (P++l)->FB (P++l)->(∀ f∈l,zhP zvN f.At=.inr (zcT f.At)/\zU (zcT f.At)=true)->zeA zvN l [⟨c,P⟩]=.inr [⟨c,P++l⟩]
 | [],P,_,_,_=>by rw [zSP,List.append_nil]
 | ⟨x,e⟩::r,P,hF,hb,h=>by
  have hx:=h ⟨x,e⟩ (by simp)
  have e2:P++⟨x,e⟩::r=(P++[⟨x,e⟩])++r:=by simp
  rw [e2] at hF hb ⊢;have hF1:=hF.app.1;have hb1:=hb.app.1;have he:=(hF1.2 ⟨x,e⟩ (by simp)).1.1
  have he:1<=e:=he;have he64:e<=64:=(hb1.fs ⟨x,e⟩ (by simp)).1
  rw [zPM,show zhP zvN (⟨x,e⟩:Fc).At=.inr (zcT x) from hx.1,zds]
  have hp:zBg (zcT x) (⟨x,e⟩:Fc).Exp.toNat [⟨c,P⟩]=.inr [⟨c,P++[⟨x,e⟩]⟩]:=by
   obtain ⟨n,hn⟩:∃ n:Nat,e=n+1:=⟨(e - 1).toNat,by omega⟩
   show zBg (zcT x) e.toNat [⟨c,P⟩]=_;rw [show e.toNat=n+1 from by omega]
   have hv0:zU [⟨c,P⟩]=true:=z2O hc hF1.app.1 hb1.app.1;have hlt:∀ z∈P,cF z ⟨x,1⟩<0:=λz hz=>(List.pairwise_append.1 hF1.1).2.2 z hz ⟨x,e⟩ (by simp)
   have hp:zt3 [⟨c,P⟩] (zcT x)=[⟨c,P++[⟨x,1⟩]⟩]:=by rw [z5c hc,z5o hlt]
   unfold zBg;rw [zbam hv0 hx.2 (by rw [hp]; exact (hb1.exp (by omega)).wi c),hp,z80,zds]
   exact z8O hc hF1 hb1 hx.2 n 1 (by omega) (by omega)
  rw [hp,zds];exact z7Y hF hb λf hf=>h f (by simp [hf])
end
theorem zG2 {s r:yB} (h:zU (s++r)=true):zU s=true/\zU r=true:=by
 obtain ⟨h1,h2,h3⟩:=zvx.1 h;obtain ⟨w1,w2,w3,w4⟩:=zGP.1 h1;rw [qg] at w1;rw [z1U] at w2;rw [z17] at w3
 exact ⟨zvx.2 ⟨zGP.2 ⟨by omega,by omega,by omega,λt ht=>w4 t (by simp [ht])⟩,(List.pairwise_append.1 h2).1,λt ht=>h3 t (by simp [ht])⟩,
  zvx.2 ⟨zGP.2 ⟨by omega,by omega,by omega,λt ht=>w4 t (by simp [ht])⟩,(List.pairwise_append.1 h2).2.1,λt ht=>h3 t (by simp [ht])⟩⟩
theorem z9f:∀ {r s:yB},zU (s++r)=true->(∀ t∈r,∀ f∈t.Fs,zhP zvN f.At=.inr (zcT f.At)/\zU (zcT f.At)=true)->zdw zvN r s=.inr (s++r)
 | [],s,_,_=>by rw [z5r,List.append_nil]
 | t::r,s,hv,h=>by
  have e2:s++t::r=(s++[t])++r:=by simp
  rw [e2] at hv ⊢;obtain ⟨h1,h2⟩:=zvx.1 (zG2 hv).1;have ht:=h2.2 t (by simp)
  have hb:FB t.Fs:=FB.of h1 (by simp)
  have hf:=z7Y ht.1 (l:=t.Fs) (P:=[]) ht.2 hb (h t (by simp))
  have hadd:zkQ s [t]=(s++[t],0):=by
   have e:zeO s [t]=s++[t]:=z4n _ _ h2.1;rw [zbgl (zG2 (zG2 hv).1).1 (zG2 (zG2 hv).1).2 (by rw [e]; exact h1),e]
  rw [z1c,zbfw ht.1,hf,zds];show sbd (opS (zkQ s [t])) _=_;rw [hadd,z80,zds];exact z9f hv λu hu=>h u (by simp [hu])
theorem zbej {d:Nat} {l:yD} (hl:l.length<=1000000) (h:∀ w∈l,zp d w.Ann/\w.Ann≠[]) (hd:d<=99) (hs:zW3 l=true):zdX l=l:=by
 have e:l.filter zmv=l:=List.filter_eq_self.2 λw hw=>by
  have:=(h w hw).2;unfold zmv;cases hx:w.Ann with
  | nil=>exact absurd hx this
  | cons x r=>simp
 unfold zdX;rw [e]
 have hp:l.Pairwise λx y=>zbb (zbc x) (zbc y)<=0:=zuJ (R:=λx y=>zbb (zbc x) (zbc y)<=0) (λx y z h1 h2=>zta _ _ _ h1 h2) l λk hk hl'=>by
  have:=zdY.1 hs k (by omega) (by omega)
  unfold zSF at this;rw [Bool.or_eq_true,qe,qe] at this;rcases this with e | e
  ·omega
  ·exact e
 refine ((zLj hl (λw hw=>(h w hw).1) hd).unique (.refl _) ?_).symm
 refine hp.imp_of_mem λ{x y} hx hy hxy=> ?_
 rw [zjG (h y hy).1 hd,zfX (zbc x) (zbc y)];simp only; omega
def AB (x:At):Prop:=znZ x<=8/\zfa x+2<=4096/\x.Items.length<=1024
theorem AB.wi {x:At} (h:AB x):zfs (zcT x)=true:=(FB.wi (l:=[⟨x,1⟩]) ⟨by simp,by rw [zja,zqh]; have:=h.1; simp only; omega,by rw [zc2,ziD]; have:=h.2.1; simp only [List.length_singleton]; omega,λf hf=>by
 rw [qh] at hf; subst hf; exact ⟨by simp,h.2.2⟩⟩ 1)
theorem AB.of {l:yC} (h:FB l) {f:Fc} (hf:f∈l):AB f.At:=by
 refine ⟨Nat.le_trans (zPZ hf) h.nes, ?_,(h.fs f hf).2⟩;have h1:=zP6 hf
 have h2:1<=l.length:=by cases l with
  | nil=>cases hf
  | cons a r=>simp
 have:=h.siz;omega
theorem zbgd {m:Nat} (hA:∀ a,zbA m a=true->zdw zvN a []=.inr a) (x:At) (h:zd3 (zbA m) x=true) (hx:AB x):zhP zvN x=.inr (zcT x):=by
 have hw:=hx.wi;rw [z5L];cases zdm.1 h with
 | var r hr=>
  simp only [if_true];unfold zvN; rw [hr]; rfl
 | mon a b ha hb ha0 hb0 hab=>
  simp only [show ¬ (1:Int)=0 from by omega,if_false,if_true]
  rw [zAC,hA a ha,zds,zAC,hA b hb,zds,zDI,zds,zds,zds];show opS (zRc a b)=_;unfold zRc opR;rw [zyy ha,zyy hb,if_neg hb0,if_neg (by simp [ha0,hab])]
  show opS (zmp (zcT (zbbL a b)))=_;rw [zJH (a:=zcT (zbbL a b)) hw]; rfl
 | del a ha ha0 hc hu=>
  simp only [show ¬ (2:Int)=0 from by omega,show ¬ (2:Int)=1 from by omega,if_false,if_true]
  rw [zAC,hA a ha,zds,zDI,zds,zds];show opS (zSx a)=_;unfold zSx opR;rw [zyy ha,if_neg (by simp [ha0,hu]),if_neg (by simp [hc])]
  show opS (zmp (zcT (z4h a)))=_;rw [zJH (a:=zcT (z4h a)) hw]; rfl
 | abs a ha ha0 hc=>
  simp only [show ¬ (3:Int)=0 from by omega,show ¬ (3:Int)=1 from by omega,show ¬ (3:Int)=2 from by omega,if_false,if_true]
  rw [zAC,hA a ha,zds,zDI,zds,zds];show opS (zRS a)=_;unfold zRS opR;rw [zyy ha,if_neg ha0,if_neg (by simp [hc])]
  show opS (zmp (zcT (zbbQ a)))=_;rw [zJH (a:=zcT (zbbQ a)) hw]; rfl
 | tst f l o b hl hi hs hf=>
  simp only [show ¬ (4:Int)=0 from by omega,show ¬ (4:Int)=1 from by omega,show ¬ (4:Int)=2 from by omega,show ¬ (4:Int)=3 from by omega,if_false]
  have key:∀ l:yD,(∀ w∈l,zbA m w.Ann=true)->zhq zvN l=.inr l:=by
   intro l;induction l with
   | nil=>intro _; rw [zZw]
   | cons w r ih=>
    intro hm;rw [zU3,hA w.Ann (hm w (by simp)),zds,ih λv hv=>hm v (by simp [hv]),zds]
  have hlen:l.length<=1024:=hx.2.2;have hs':=zbej (d:=9) (l:=l) (by omega) (λw hw=>⟨(ze0 (hi w hw).1).1,(hi w hw).2⟩) (by omega) hs
  rw [zDI,zds,key l λw hw=>(hi w hw).1,zds]
  show opS (zxU f l o b)=_;unfold zxU;have hall:(l.all λw=>zU w.Ann)=true:=List.all_eq_true.2 λw hw=>zyy (hi w hw).1
  have hpos:0<l.length:=by cases l with
   | nil=>exact absurd rfl hl
   | cons a r=>simp
  rw [hf,hall,hs',decide_eq_true hpos];show opS (zmp (zcT (zNI f l o b)))=_;rw [zJH (a:=zcT (zNI f l o b)) hw]; rfl
theorem zbdm:∀ m,∀ a,zbA m a=true->zdw zvN a []=.inr a
 | 0,a,h=>by cases h
 | m+1,a,h=>by
  obtain ⟨h1,_,h3⟩:=zRz.1 (show zxP (zd3 (zbA m)) a=true from h)
  exact z9f (s:=[]) (zyy h) λt ht f hf=>by
   have hb:=AB.of (FB.of h1 ht) hf;have hv:=((h3 t ht).2.2 f hf).2;exact ⟨zbgd (zbdm m) f.At hv hb,zbcd (z0S.2 ((zdm.1 hv).imp λa ha=>zyy ha)) hb.wi⟩
theorem zbhq {a:yB} (h:zU a=true):zdw zvN a []=.inr a:=zbdm 100 a h
def dvF (a b:yC):Bool:=a.all λf=>b.any λg=>decide (f.Exp<=g.Exp)&&decide (f.At=g.At)
theorem zbbZ {α:Type} (e:α->TT) (he:∀ a b,e a=e b->a=b):Ord3 λa b=>zbb (e a) (e b) where
 eq x y:=⟨λh=>he _ _ (zss _ _ h),λh=>by subst h; exact zCl _⟩
 swap x y:=by rw [zfX (e x) (e y)]; omega
 trans x y z h1 h2:=by
  have h3:zbb (e x) (e z)<=0:=zta _ _ _ (Int.le_of_lt h1) (Int.le_of_lt h2);by_cases h4:zbb (e x) (e z)=0
  ·have h5:=zss _ _ h4;rw [h5,zfX (e y) (e z)] at h1;omega
  ·omega
abbrev zbdJ (l:yC):Prop:=l.Pairwise λf g=>zbb (zdO f.At) (zdO g.At)<0
theorem zbdJ.uniq {l:yC} (h:zbdJ l):∀ f∈l,∀ g∈l,f.At=g.At->f=g:=by
 induction l with
 | nil=>intro f hf; cases hf
 | cons x r ih=>
  have h:=qi.1 h
  have ne:∀ g∈r,x.At≠g.At:=λg hg e=>by
   have:=h.1 g hg;rw [e,zCl] at this; omega
  intro f hf g hg e;rcases qd.1 hf with e1 | hf1
  ·rcases qd.1 hg with e2 | hg1
   ·rw [e1,e2]
   ·rw [e1] at e; exact absurd e (ne g hg1)
  ·rcases qd.1 hg with e2 | hg1
   ·rw [e2] at e; exact absurd e.symm (ne f hf1)
   ·exact ih h.2 f hf1 g hg1 e
def cL (a b:yC):Int:=zbb (.l (zby a)) (.l (zby b))
theorem zbil:Ord3 cL:=zbbZ (λa=>.l (zby a)) λa b h=>zA8 _ _ (TT.l.inj h)
structure Canon (a:yB):Prop where
 asc:a.Pairwise λt u=>cL t.Fs u.Fs<0
 fac:∀ t∈a,zbdJ t.Fs
theorem Canon.tail {t:Term} {a:yB} (h:Canon (t::a)):Canon a:=⟨(qi.1 h.asc).2,λx hx=>h.fac x (by simp [hx])⟩
theorem Canon.uniq {a:yB} (h:Canon a):∀ t∈a,∀ u∈a,t.Fs=u.Fs->t=u:=by
 have hp:=h.asc;clear h;induction a with
 | nil=>intro t ht; cases ht
 | cons x r ih=>
  have hp:=qi.1 hp
  have ne:∀ g∈r,x.Fs≠g.Fs:=λg hg e=>by
   have:=hp.1 g hg;rw [e,zbil.refl] at this; omega
  intro f hf g hg e;rcases qd.1 hf with e1 | hf1
  ·rcases qd.1 hg with e2 | hg1
   ·rw [e1,e2]
   ·rw [e1] at e; exact absurd e (ne g hg1)
  ·rcases qd.1 hg with e2 | hg1
   ·rw [e2] at e; exact absurd e.symm (ne f hf1)
   ·exact ih hp.2 f hf1 g hg1 e
def leS (a b:yB):Bool:=a.all λt=>b.any λu=>dvF u.Fs t.Fs
theorem zbf2 {a b:yB}:leS a b=true↔∀ t∈a,∃ u∈b,dvF u.Fs t.Fs=true:=by
 unfold leS;simp only [List.all_eq_true,List.any_eq_true]
def zbeP (a b s:yB):Prop:=∀ l:yC,(∃ t∈s,t.Fs=l)↔(∃ t∈a,t.Fs=l)\/∃ t∈b,t.Fs=l
theorem zbeP.le {a b s c:yB} (h:zbeP a b s):leS s c=true↔leS a c=true/\leS b c=true:=by
 simp only [zbf2];constructor
 ·intro hs;refine ⟨λt ht=> ?_,λt ht=> ?_⟩
  ·obtain ⟨t',ht',e⟩:=(h t.Fs).2 (.inl ⟨t,ht,rfl⟩);rw [<- e]; exact hs t' ht'
  ·obtain ⟨t',ht',e⟩:=(h t.Fs).2 (.inr ⟨t,ht,rfl⟩);rw [<- e]; exact hs t' ht'
 ·rintro ⟨h1,h2⟩ t ht
  rcases (h t.Fs).1 ⟨t,ht,rfl⟩ with ⟨u,hu,e⟩ | ⟨u,hu,e⟩
  ·rw [<- e]; exact h1 u hu
  ·rw [<- e]; exact h2 u hu
theorem zbhF (a b:yC):cL a b=zbr (zby a) (zby b):=by unfold cL; rw [zbb]
theorem PA.canon {a:yB} (h:PA a):Canon a:=⟨h.1.imp λ{x y} hxy=>by rw [zbhF]; exact hxy,λt ht=>(h.2 t ht).2.1⟩
def GP {α:Type} (P:α->Prop):Int⊕α->Prop
 | .inl _=>True
 | .inr a=>P a
theorem zEa {α β:Type} {P:α->Prop} {Q:β->Prop} {x:Int⊕α} {k:α->Int⊕β} (hx:GP P x) (hk:∀ a,P a->GP Q (k a)):GP Q (sbd x k):=by
 cases x with
 | inl e=>exact trivial
 | inr a=>exact hk a hx
theorem zXS {P:yB->Prop} {r:yB×Int} (h:P r.1):GP P (opS r):=by
 unfold opS;split
 ·exact h
 ·exact trivial
theorem zAA {a:yB}:zb0 a↔∀ t∈a,∀ f∈t.Fs,zyo f.At:=by
 rw [zGf];exact ⟨λh t ht=>zwR.1 (h t ht),λh t ht=>zwR.2 (h t ht)⟩
theorem zAE:zb0 []:=zGf.2 λt ht=>by cases ht
theorem zSK (c:Int):zb0 [⟨c,[]⟩]:=zAA.2 λt ht f hf=>by
 rw [qh] at ht; subst ht; cases hf
theorem zXA {x:At} (h:zyo x):zb0 (zcT x):=zAA.2 λt ht f hf=>by
 simp only [zcT,qh] at ht; subst ht;rw [qh] at hf; subst hf; exact h
theorem zPa {a:yB} (h:zb0 a):zb0 (zmp a).1:=by
 unfold zmp;cases zfs a with
 | true=>exact h
 | false=>exact zAE
theorem z1E {ok:Bool} {r:yB×Int} (h:ok=true->zb0 r.1):zb0 (opR ok r).1:=by
 cases ok with
 | true=>exact h rfl
 | false=>exact zAE
theorem zbgU {a b:yB} (hs:Srs a) (ha:zb0 a) (hb:zb0 b):zb0 (zeO a b):=zAA.2 λt ht f hf=>by
 obtain ⟨x,hx,e⟩:=zJK b a hs ht;rw [e] at hf;rcases hx with hx | hx
 ·exact zAA.1 ha x hx f hf
 ·exact zAA.1 hb x hx f hf
theorem zbe6 {a b:yB} (ha:zb0 a) (hb:zb0 b):zb0 (zt3 a b):=zAA.2 λt ht f hf=>by
 obtain ⟨x,hx,e⟩:=zJK (zf3 a b) [] List.Pairwise.nil ht;rw [e] at hf;rcases hx with hx | hx
 ·cases hx
 ·obtain ⟨u,hu,v,hv,rfl⟩:=z5G hx;obtain ⟨y,hy,e⟩:=ztK hf;rw [e];rcases hy with hy | hy
  ·exact zAA.1 ha u hu y hy
  ·exact zAA.1 hb v hv y hy
theorem zbhC {a b:yB} (ha:zb0 a) (hb:zb0 b):zb0 (zkQ a b).1:=z1E λhv=>by
 rw [qc] at hv;exact zPa (zbgU (zbds hv.1).1 ha hb)
theorem zbhj {a b:yB} (ha:zb0 a) (hb:zb0 b):zb0 (zLg a b).1:=z1E λ_=>zPa (zbe6 ha hb)
theorem zZ0 {k:Int} {l:yA} (h:∀ a∈l,zb0 a):zyo ⟨k,⟨0,0⟩,l,0,[],0,⟨0,0,ByteArray.mk #[]⟩⟩:=(zDr _).2 ⟨by simp,zzq.2 h,zxh.2 λw hw=>by cases hw⟩
theorem zbhs {a b:yB} (ha:zb0 a) (hb:zb0 b):zb0 (zRc a b).1:=z1E λ_=>by
 split
 ·exact ha
 ·split
  ·exact zAE
  ·refine zPa (zXA (zZ0 λx hx=> ?_))
   simp only [qd,List.not_mem_nil,or_false] at hx;rcases hx with rfl | rfl
   ·exact ha
   ·exact hb
theorem zbhi {a:yB} (ha:zb0 a):zb0 (zSx a).1:=z1E λ_=>by
 split
 ·exact ha
 ·split
  ·exact zSK 1
  ·refine zPa (zXA (zZ0 λx hx=> ?_))
   rw [qh] at hx; subst hx; exact ha
theorem zbgp {a:yB} (ha:zb0 a):zb0 (zRS a).1:=z1E λ_=>by
 split
 ·exact zSK 1
 ·split
  ·exact zAE
  ·refine zPa (zXA (zZ0 λx hx=> ?_))
   rw [qh] at hx; subst hx; exact ha
theorem zbfj {f o:Int} {l:yD} {b:Value} (hl:l.length<20) (h:∀ w∈l,zb0 w.Ann):zb0 (zxU f l o b).1:=by
 unfold zxU;cases (!(zz6 f l o b&&l.all λw=>zU w.Ann)) with
 | true=>exact zAE
 | false=>
  cases decide (0<(zdX l).length) with
  | true=>
   refine zPa (zXA ((zDr _).2 ⟨?_,zzq.2 λa ha=>(by cases ha),zxh.2 λw hw=>h w (zI4 hw).1⟩))
   have h1:(zdX l).length=(l.filter zmv).length:=(zpo _ _).length_eq;have h2:=List.length_filter_le zmv l;show (zdX l).length<20;omega
  | false=>
   cases (f==0&&zNv o (zd8 0 b.Int)) with
   | true=>exact zSK 1
   | false=>exact zAE
theorem zbcO {b:yB} (hb:zb0 b):∀ (n:Nat) (p:yB),zb0 p->GP zb0 (zBg b n p)
 | 0,p,hp=>hp
 | n+1,p,hp=>zEa (zXS (zbhj hp hb)) λq hq=>zbcO hb n q hq
theorem zbhd (n:Int):zb0 (zBr n):=by
 unfold zBr;split
 ·exact zAE
 ·exact zSK _
theorem zbav {l:yA} (h:∀ a∈l,zb0 a) (i:Nat):zb0 (l.getD i default):=by
 by_cases hi:i<l.length
 ·exact h _ (zn hi)
 ·rw [List.getD_eq_getElem?_getD,List.getElem?_eq_none (by omega)]; exact zAE
section
variable {to:RowID->yB} (ht:∀ r,zb0 (to r))
include ht
mutual
theorem zbby:∀ x:At,zyo x->GP zb0 (zhP to x)
 | ⟨k,r,a,f,i,o,b⟩=>λh=>by
  obtain ⟨h1,h2,h3⟩:=(zDr _).1 h;rw [zhP];split
  ·exact ht r
  ·refine zEa (z1H a (zzq.1 h2)) λxs hxs=> ?_
   have g0:=zbav hxs 0;have g1:=zbav hxs 1;split
   ·exact zXS (zbhs g0 g1)
   ·split
    ·exact zXS (zbhi g0)
    ·split
     ·exact zXS (zbgp g0)
     ·refine zEa (zZJ i (zxh.1 h3)) λis his=>zXS (zbfj ?_ his.2)
      rw [his.1]; exact h1
theorem zSS:∀ l:yC,(∀ f∈l,zyo f.At)->∀ p,zb0 p->GP zb0 (zeA to l p)
 | [],_,p,hp=>by rw [zeA]; exact hp
 | ⟨x,e⟩::r,h,p,hp=>by
  rw [zeA];exact zEa (zbby x (h ⟨x,e⟩ (by simp))) λb hb=>zEa (zbcO hb _ p hp) λq hq=>zSS r (λf hf=>h f (by simp [hf])) q hq
theorem zWm:∀ a:yB,(∀ t∈a,∀ f∈t.Fs,zyo f.At)->∀ s,zb0 s->GP zb0 (zdw to a s)
 | [],_,s,hs=>by rw [zdw]; exact hs
 | ⟨c,fs⟩::r,h,s,hs=>by
  rw [zdw];exact zEa (zSS fs (h ⟨c,fs⟩ (by simp)) _ (zbhd c)) λp hp=>zEa (zXS (zbhC hs hp)) λq hq=>zWm r (λt ht=>h t (by simp [ht])) q hq
theorem z1H:∀ l:yA,(∀ a∈l,zb0 a)->GP (λr:yA=>∀ a∈r,zb0 a) (zln to l)
 | [],_=>by rw [zln]; exact λa ha=>by cases ha
 | a::r,h=>by
  rw [zln];refine zEa (zWm a (zAA.1 (h a (by simp))) [] zAE) λb hb=>zEa (z1H r λc hc=>h c (by simp [hc])) λl hl=> ?_
  intro x hx;rcases qd.1 hx with rfl | hx
  ·exact hb
  ·exact hl x hx
theorem zZJ:∀ l:yD,(∀ w∈l,zb0 w.Ann)->GP (λr:yD=>r.length=l.length/\∀ w∈r,zb0 w.Ann) (zhq to l)
 | [],_=>by rw [zhq]; exact ⟨rfl,λa ha=>by cases ha⟩
 | ⟨v,a⟩::r,h=>by
  rw [zhq];refine zEa (zWm a (zAA.1 (h ⟨v,a⟩ (by simp))) [] zAE) λb hb=>zEa (zZJ r λc hc=>h c (by simp [hc])) λl hl=> ?_
  refine ⟨by simp [hl.1],λx hx=> ?_⟩
  rcases qd.1 hx with rfl | hx
  ·exact hb
  ·exact hl.2 x hx
end
end
section
variable {σ:At->yB}
end
end Go.Proofs.YtoknknbmfmddbaaGreatDoor
/- Relations: the normal form, by the program. -/
set_option maxRecDepth 100000
namespace Go.Proofs.YtoknknbmfmddbaaGreatDoor
open Go Go.Ab
def zeM (x:Row):Bool:= !(x.Ann.length==0)
theorem z5u {α:Type} [Inhabited α] (P:α->Bool):∀ (l:List α) (i:Nat),(∃ j:Nat,ixf P l i=((i+j:Nat):Int)/\j<l.length/\P (l.getD j default)=true/\∀ x∈l.take j,P x=false)\/(ixf P l i= -1/\∀ x∈l,P x=false)
 | [],i=>.inr ⟨rfl,λx h=>by cases h⟩
 | y::l,i=>by
  rw [ixf];cases e:P y with
  | true=>exact .inl ⟨0,rfl,by simp,e,λx h=>by cases h⟩
  | false=>
   rw [cond_false];rcases z5u P l (i+1) with ⟨j,h1,h2,h3,h4⟩ | ⟨h1,h2⟩
   ·refine .inl ⟨j+1,by rw [h1]; congr 1; omega,by simp; omega,h3,λx hx=> ?_⟩
    rw [List.take_succ_cons] at hx;rcases qd.1 hx with rfl | hx
    ·exact e
    ·exact h4 x hx
   ·refine .inr ⟨h1,λx hx=> ?_⟩
    rcases qd.1 hx with rfl | hx
    ·exact e
    ·exact h2 x hx
theorem zbcB (x:Row):(zhr x).2= !zeM x:=by
 unfold zeM; rw [Bool.not_not];exact zrq _ 0
theorem zUV:∀ (n i j:Nat) (s:yF),s.length<=1000000->s.length<j+n->j<=s.length->i<=j->
  ∃ (i':Nat) (s':yF),zhm n i j s=(true,((i':Int),s'))/\s'.length=s.length/\i'<=s.length/\s'.take i'=s.take i++(s.drop j).filter zeM
 | 0,i,j,s,hs,h,h2,h3=>by omega
 | n+1,i,j,s,hs,h,h2,h3=>by
  show ∃ (i':Nat) (s':yF),(zhn i j s).ev (λx y=>zhm n x.2.2.1 x.2.2.2.1 y.1) (λr=>(true,r)) (false,default)=_/\_
  unfold zhn;by_cases hj:j<s.length
  ·have hi:i<s.length:=by omega
   simp only [Wy.ev_i,Wy.ev_k,Wy.ev_h,Wy.ev_bn,Wy.ev_d,tT,hj,hi,zbcB];rw [zbg hj];cases hx:zeM (s.getD j default) with
   | false=>
    simp only [List.filter_cons,hx,Bool.not_false,Bool.not_true,cond_false,Bool.false_eq_true,if_false];rw [zw (by omega)]
    exact zUV n i (j+1) s hs (by omega) (by omega) (by omega)
   | true=>
    simp only [List.filter_cons,hx,Bool.not_false,Bool.not_true,cond_true,if_true];rw [zw (by omega),zw (by omega)]
    obtain ⟨i',s',h4,h5,h6,h7⟩:=zUV n (i+1) (j+1) (s.set i (s.getD j default)) (by simpa using hs) (by simp; omega) (by simp; omega) (by omega)
    refine ⟨i',s',h4,by simpa using h5,by simpa using h6, ?_⟩
    rw [h7,z6r _ hi,z90 _ (by omega)]
    simp
  ·simp only [Wy.ev_i,Wy.ev_k,Wy.ev_h,Wy.ev_bn,Wy.ev_d,tT,hj];exact ⟨i,s,rfl,rfl,by omega,by rw [zco hj]; simp⟩
theorem zbbA (s:yF) (hs:s.length<=1000000):zd6 s=(true,s.filter zeM):=by
 unfold zd6 zm8
 have hix:zdC s=(true,ixf (λx=> !zeM x) s 0):=by
  have:zdC s=IH (λ(_:Unit) x=>(true,(zhr x).2)) (s.length+(Int.ofNat s.length).toNat +Int.toNat (0:Int)+(1000:Nat)) () s:=rfl
  exact this.trans (zba9 _ _ _ _ _ (by omega) (λx _=>by rw [zbcB]) (by omega))
 rw [Wy.fin_bn,hix,cond_true];rcases z5u (λx=> !zeM x) s 0 with ⟨j,h1,h2,h3,h4⟩ | ⟨h1,h2⟩
 ·rw [h1,Nat.zero_add];have e:((j:Int)== -1)=false:=by simp
  rw [Wy.fin_i,e,cond_false,Wy.fin_bn,zw (by omega)]
  obtain ⟨i',s',h5,h6,h7,h8⟩:=zUV ((j:Int).toNat +((j+1:Nat):Int).toNat +s.length+(1000:Nat)) j (j+1) s hs (by simp; omega) (by omega) (by omega)
  rw [h5];have h7':i'<=s'.length:=by omega
  have e2:i'+(s'.length - i')<=s'.length:=by omega
  have e3:i'<=(List.take i' s'++List.replicate (s'.length - i') (Row.mk [] [])++List.drop (i'+(s'.length - i')) s').length:=by simp; omega
  simp only [Wy.fin_i,Wy.fin_k,Int.ofNat_eq_natCast,Int.toNat_natCast,zep,zoF,h7',e2,e3,Nat.le_refl,decide_true,Bool.and_self,cond_true,Int.le_refl,Int.toNat_zero,Nat.sub_zero];rw [zbbc _ h7',h8];congr 1;have h3':zeM (s.getD j default)=false:=by simpa using h3
  conv=>rhs; rw [<- List.take_append_drop j s,List.filter_append,zbg h2,List.filter_cons]
  simp only [h3',Bool.false_eq_true,if_false];congr 1;refine (List.filter_eq_self.2 λx hx=> ?_).symm
  have:=h4 x hx
  simpa using this
 ·rw [h1];rw [Wy.fin_i,show ((-1:Int)== -1)=true from rfl,cond_true,Wy.fin_k]
  congr 1;exact (List.filter_eq_self.2 λx hx=>by simpa using h2 x hx).symm
def cR (x y:Row):Int:=zt4 x.Values y.Values
def zeN (x y:Row):Option Row:=if (zkQ x.Ann y.Ann).2=0 then some ⟨x.Values,(zkQ x.Ann y.Ann).1⟩ else none
def zpt (x:Row):Prop:=x.Values.length<=1000000/\okA x.Ann/\zU x.Ann=true
theorem zbdH:MO cR zeN zpt where
 anti:=λx y _ _=>by unfold cR; have:=zDA x.Values y.Values; omega
 trans:=λx y z _ _ _ h1 h2=>zY5 h1 h2
 key:=λx y z hx hy e=>by
  unfold zeN at e;split at e
  ·rename_i h0;rw [qa] at e;subst e;obtain ⟨⟨_,_,v3⟩,e3⟩:=zbgM h0;refine ⟨⟨hx.1,(z4P hx.2.1 hy.2.1).1,by show zU (zkQ x.Ann y.Ann).1=true; rw [e3]; exact v3⟩,λw _=>⟨rfl,rfl⟩⟩
  ·cases e
theorem zbfm {x y:Row} (hx:zpt x) (hy:zpt y) (h:¬ (zkQ x.Ann y.Ann).2=0):(zkQ x.Ann y.Ann).2=6:=by
 unfold zkQ opR zmp at *;rw [hx.2.2,hy.2.2] at h ⊢;simp only [Bool.and_self,cond_true] at h ⊢;cases hw:zfs (zeO x.Ann y.Ann) with
 | true=>rw [hw] at h; exact absurd rfl h
 | false=>rfl
theorem zV7 {x:Row} (hx:zpt x) (hs:zb0 x.Ann):znW x x.Ann=(true,x):=by
 unfold znW zIF zfR;rw [Wy.fin_bn,z3p hx.2.1 (λ_=>hs) ⟨by simp,λb hb=>by cases hb⟩,cond_true,Wy.fin_bn,decide_eq_true (zqD (by have:=hx.1; omega) (by omega)),cond_true,Wy.fin_k]
 unfold zbd1 opR;rw [hx.2.2];show (true,Row.mk x.Values (ofS (zdw (toA []) x.Ann [])).1)=_;rw [show toA []=zvN from rfl,zbhq hx.2.2]; rfl
theorem zbae (cols:yH) (S:yF) (hS:S.length<=1000) (hV:∀ x∈S,zpt x/\zb0 x.Ann):∀ (n i:Nat) (o:yF),S.length<i+n->i<=S.length->o.length<=i->(∀ w∈o,zpt w)->
  zAL n S.length i S cols o=(true,match (S.drop i).foldl (zQ6 cR zeN) (some o) with | none=>.inl 6 | some M=>.inr (cols,M))
 | 0,i,o,h1,h2,h3,h4=>by omega
 | n+1,i,o,h1,h2,h3,h4=>by
  show (ztM S.length i S cols o).ev (zB ztu (.inl default) n) (λr=>(true,r)) (false,.inl default)=_
  unfold ztM;by_cases hi:i<S.length
  ·obtain ⟨hx,hsm⟩:=hV _ (zn hi);have hcp:=zV7 hx hsm;obtain ⟨x,ex⟩:∃ x,x=S.getD i default:=⟨_,rfl⟩;rw [<- ex] at hx hsm hcp;rw [zbg hi,List.foldl_cons, <- ex];have ih:=λo'=>zbae cols S hS hV n (i+1) o' (by omega) (by omega)
   have hr:∀ r:Row,decide ((o.length+[r].length)*(48:Nat)<=zA)=true:=λr=>decide_eq_true (zqD (by simp; omega) (by omega))
   rcases List.eq_nil_or_concat o with rfl | ⟨o',w,rfl⟩
   ·simp only [Wy.ev_i,Wy.ev_k,Wy.ev_h,Wy.ev_bn,Wy.ev_d,tT,hi, <- ex,hcp,hr,zw (show i<4611686018427387904 by omega),List.length_nil]
    exact ih [x] (by simp) λw hw=>by rw [qh.1 hw]; exact hx
   ·rw [List.concat_eq_append] at *;have hw:=h4 w (by simp)
    have hlen:(o'++[w]).length=o'.length+1:=by simp
    have h0:((((o'++[w]).length:Nat):Int)==(0:Int))=false:=by rw [zf8,decide_eq_false_iff_not,hlen]; omega
    have w1:IntKind.i64.wrap ((((o'++[w]).length:Nat):Int) - (1:Int))=(o'.length:Int):=by rw [hlen,zeH (by simp at h3; omega) (by simp at h3; omega)]; omega
    have g1:o'.length<(o'++[w]).length:=by omega
    have g2:(o'++[w]).getD o'.length default=w:=z8E o' [] w;have hc:zcp w x=(true,cR w x):=zfh w x hw.1;have hset:∀ v,(o'++[w]).set o'.length v=o'++[v]:=λv=>z7z o' [] w v
    have hm:zQ6 cR zeN (some (o'++[w])) x=if cR w x=0 then (zeN w x).map λz=>o'++[z] else some (o'++[w]++[x]):=by
     unfold zQ6;simp only [List.getLast?_append,List.getLast?_singleton,Option.some_or,List.dropLast_concat]
    rw [hm];simp only [Wy.ev_i,Wy.ev_k,Wy.ev_h,Wy.ev_bn,Wy.ev_d,tT,hi,h0,w1,g1,g2, <- ex,hc,hcp,hr,zpE,zw (show i<4611686018427387904 by omega),(zbcq hw.2.1 hx.2.1).1,hset]
    by_cases e:cR w x=0
    ·rw [if_pos e,decide_eq_true e,Bool.not_true,cond_false];by_cases e2:(zkQ w.Ann x.Ann).2=0
     ·have ea:zeN w x=some ⟨w.Values,(zkQ w.Ann x.Ann).1⟩:=by unfold zeN; rw [if_pos e2]
      rw [ea,decide_eq_true e2,Bool.not_true,cond_false,Option.map_some]
      exact ih (o'++[⟨w.Values,(zkQ w.Ann x.Ann).1⟩]) (by simp at h3 ⊢; omega) λv hv=>by
       rcases List.mem_append.1 hv with hv | hv
       ·exact h4 v (by simp [hv])
       ·rw [qh.1 hv]; exact (zbdH.key w x _ hw hx ea).1
     ·have ea:zeN w x=none:=by unfold zeN; rw [if_neg e2]
      rw [ea,decide_eq_false e2,Bool.not_false,cond_true,Option.map_none,zVV,zbfm hw hx e2]
    ·rw [if_neg e,decide_eq_false e,Bool.not_false,cond_true]
     exact ih (o'++[w]++[x]) (by simp at h3 ⊢; omega) λv hv=>by
      rcases List.mem_append.1 hv with hv | hv
      ·exact h4 v hv
      ·rw [qh.1 hv]; exact hx
  ·simp only [Wy.ev_i,Wy.ev_k,Wy.ev_h,Wy.ev_bn,Wy.ev_d,tT,hi,zco hi,List.foldl_nil]
def zE0 (cols:yH):yF->Int
 | []=>0
 | x::r=>bif !zoS cols x.Values then 7 else bif !zU x.Ann then 1 else zE0 cols r
def zt7 (r:Relation):Relation×Int:=
 if zFQ r.Columns=false then (⟨[],[]⟩,1) else
 if zE0 r.Columns r.Rows=0 then
  match (r.Rows.filter zeM).foldl (λo x=>o.bind λM=>zg8 cR zeN M x) (some []) with
  | none=>(⟨[],[]⟩,6)
  | some M=>(⟨r.Columns,M⟩,0)
 else (⟨[],[]⟩,zE0 r.Columns r.Rows)
structure okRel (r:Relation):Prop where
 cols:r.Columns.length<=1000000
 rows:r.Rows.length<20
 row:∀ x∈r.Rows,x.Values.length<=1000000/\okA x.Ann/\(zU x.Ann=true->zb0 x.Ann)
theorem z7w (r:Relation) (h:okRel r):∀ (n i:Nat),r.Rows.length<i+n->i<=r.Rows.length->zB9 n r.Rows r.Rows.length i r=(true,if zE0 r.Columns (r.Rows.drop i)=0 then .inr r else .inl (zE0 r.Columns (r.Rows.drop i)))
 | 0,i,h1,h2=>by omega
 | n+1,i,h1,h2=>by
  show (zuB r.Rows r.Rows.length i r).ev (zB zuI (.inl default) n) (λr=>(true,r)) (false,.inl default)=_
  unfold zuB;have hl:=h.rows;by_cases hi:i<r.Rows.length
  ·obtain ⟨k1,k2,k3⟩:=h.row _ (zn hi);simp only [Wy.ev_i,Wy.ev_k,Wy.ev_h,Wy.ev_bn,Wy.ev_d,tT,hi,z3J _ _ h.cols,k2.valid,zw (show i<4611686018427387904 by omega)]
   rw [zbg hi,zE0];cases zoS r.Columns (r.Rows.getD i default).Values with
   | false=>rfl
   | true=>
    cases zU (r.Rows.getD i default).Ann with
    | false=>rfl
    | true=>exact z7w r h n (i+1) (by omega) (by omega)
  ·simp only [Wy.ev_i,Wy.ev_k,Wy.ev_h,Wy.ev_bn,Wy.ev_d,tT,hi,zco hi];rfl
theorem zIZ {cols:yH}:∀ {l:yF},zE0 cols l=0->∀ x∈l,zoS cols x.Values=true/\zU x.Ann=true
 | [],_,x,hx=>by cases hx
 | y::l,h,x,hx=>by
  rw [zE0] at h;cases h1:zoS cols y.Values with
  | false=>rw [h1] at h; cases h
  | true=>
   cases h2:zU y.Ann with
   | false=>rw [h1,h2] at h; cases h
   | true=>
    rw [h1,h2] at h;rcases qd.1 hx with rfl | hx
    ·exact ⟨h1,h2⟩
    ·exact zIZ h x hx
theorem zbg7:OW λx:Row=>x.Values.length<=1000000 where
 ends := λx y hx _ => ⟨_, zfh x y hx⟩
 asym:=λx y hx hy h1 h2=>by
  unfold ltW at h1 h2;rw [zfh x y hx] at h1;rw [zfh y x hy] at h2;have:=zDA x.Values y.Values;simp only at h1 h2; omega
 ntr:=λx y z hx hy hz h1 h2 h3=>by
  unfold ltW at h1 h2 h3;rw [zfh x _ hx] at h1 h3;rw [zfh y z hy] at h2;simp only at h1 h2 h3;have a1:=zDA x.Values y.Values;have a2:=zDA y.Values z.Values;have a3:=zDA x.Values z.Values;have:=zY5 (x:=z.Values) (y:=y.Values) (z:=x.Values) (by omega) (by omega)
  omega
theorem z5m:∀ (x:Row) (l:yF),x.Values.length<=1000000->zBf x l=zyF cR x l
 | x,[],_=>rfl
 | x,y::r,hx=>by
  rw [zBf,zyF,zfh x y hx];show (if cR x y<0 then _ else _)=_
  split
  ·rfl
  ·rw [z5m x r hx]
theorem z8n:∀ (l s:yF),(∀ x∈l,x.Values.length<=1000000)->l.foldl (λs x=>zBf x s) s=l.foldl (λs x=>zyF cR x s) s
 | [],s,_=>rfl
 | x::l,s,h=>by
  rw [List.foldl_cons,List.foldl_cons,z5m x s (h x (by simp))]
  exact z8n l _ λy hy=>h y (by simp [hy])
theorem z0d {ρ:Type} {c:ρ->ρ->Int} {add:ρ->ρ->Option ρ}:∀ {M N:List ρ} {x:ρ},zg8 c add M x=some N->N.length<=M.length+1
 | [],N,x,h=>by rw [zg8,qa] at h; subst h; simp
 | y::M,N,x,h=>by
  rw [zg8] at h;split at h
  ·cases e:zg8 c add M x with
   | none=>rw [e] at h; cases h
   | some K=>
    rw [e,Option.map_some,qa] at h;have:=z0d e;subst h; simp; omega
  ·split at h
   ·cases e:add y x with
    | none=>rw [e] at h; cases h
    | some z=>rw [e,Option.map_some,qa] at h; subst h; simp
   ·rw [qa] at h; subst h; simp
theorem zWp {ρ:Type} {c:ρ->ρ->Int} {add:ρ->ρ->Option ρ}:∀ l:List ρ,l.foldl (λo x=>o.bind λM=>zg8 c add M x) none=none
 | []=>rfl
 | _::l=>zWp l
theorem zR7 {ρ:Type} {c:ρ->ρ->Int} {add:ρ->ρ->Option ρ}:∀ {l M N:List ρ},l.foldl (λo x=>o.bind λM=>zg8 c add M x) (some M)=some N->N.length<=M.length+l.length
 | [],M,N,h=>by rw [List.foldl_nil,qa] at h; subst h; simp
 | x::l,M,N,h=>by
  rw [List.foldl_cons,Option.bind_some] at h;cases e:zg8 c add M x with
  | none=>rw [e,zWp] at h; cases h
  | some K=>
   rw [e] at h;have h1:=z0d e;have h2:=zR7 h;simp only [qf]; omega
theorem zLD (r:Relation) (h:okRel r):zh7 r=(true,zt7 r):=by
 unfold zh7 zDc zt7;have hl:=h.rows;have hc:=z7w r h (r.Rows.length+(Int.ofNat r.Rows.length).toNat +Int.toNat (0:Int)+r.Columns.length+r.Rows.length+(1000:Nat)) 0 (by omega) (by omega)
 rw [show ((0:Nat):Int)=(0:Int) from rfl,List.drop_zero] at hc
 rw [show (r.Rows.length:Int)=Int.ofNat r.Rows.length from rfl] at hc
 rw [Wy.fin_bn,zMJ _ h.cols,cond_true,Wy.fin_i];cases hcol:zFQ r.Columns with
 | false=>rfl
 | true=>
  rw [Bool.not_true,cond_false,Wy.fin_bn,hc,cond_true,if_neg (show ¬ (true=false) by decide)]
  by_cases hk:zE0 r.Columns r.Rows=0
  ·rw [if_pos hk,if_pos hk];have hv:=zIZ hk;have hfl:(r.Rows.filter zeM).length<20:=Nat.lt_of_le_of_lt (List.length_filter_le _ _) hl
   have hfm:∀ x∈r.Rows.filter zeM,zpt x/\zb0 x.Ann:=λx hx=>by
    have hm:=(List.mem_filter.1 hx).1;obtain ⟨k1,k2,k3⟩:=h.row x hm;exact ⟨⟨k1,k2,(hv x hm).2⟩,k3 (hv x hm).2⟩
   have hclR:zfd r.Rows=(true,r.Rows):=by
    unfold zfd;rw [decide_eq_true (zqD (by omega) (by omega))]
   have hclC:zdR r.Columns=(true,r.Columns):=by
    unfold zdR;rw [decide_eq_true (zqD (by have:=h.cols; omega) (by omega))]
   have hsort:=zbft zbg7 (l:=r.Rows.filter zeM) (λx hx=>(hfm x hx).1.1) hfl
   have hperm:(zJk (r.Rows.filter zeM)).Perm (r.Rows.filter zeM):=(z0H zbg7 (r.Rows.filter zeM) [] (λx hx=>(hfm x hx).1.1) .nil).2.perm
   have hloop:=zbae r.Columns (zJk (r.Rows.filter zeM)) (by rw [hperm.length_eq]; omega) (λx hx=>hfm x (hperm.mem_iff.1 hx)) ((Int.ofNat (zJk (r.Rows.filter zeM)).length).toNat +Int.toNat (0:Int)+(zJk (r.Rows.filter zeM)).length+r.Columns.length+(0:Nat)+(1000:Nat)) 0 [] (by omega) (by omega) (by simp) (λw hw=>by cases hw)
   rw [show ((0:Nat):Int)=(0:Int) from rfl,List.drop_zero,zbfF] at hloop
   have hmm:mrg cR zeN (zJk (r.Rows.filter zeM))=(r.Rows.filter zeM).foldl (λo x=>o.bind λM=>zg8 cR zeN M x) (some []):=by
    unfold zJk;rw [z8n _ _ λx hx=>(hfm x hx).1.1]
    exact z7u zbdH (r.Rows.filter zeM) [] (λx hx=>(hfm x hx).1) .nil
   rw [hmm] at hloop;simp only [Wy.fin_i,Wy.fin_k,Wy.fin_bn,isL,getL,getR,cond_true,cond_false,hclR,zbbA _ (show r.Rows.length<=1000000 by omega),hsort,hclC]
   rw [show (((zJk (r.Rows.filter zeM)).length:Nat):Int)=Int.ofNat (zJk (r.Rows.filter zeM)).length from rfl] at hloop
   rw [hloop];cases e:(r.Rows.filter zeM).foldl (λo x=>o.bind λM=>zg8 cR zeN M x) (some []) with
   | none=>rfl
   | some M=>
    have:=zR7 e
    have hM:decide (Int.ofNat M.length>(1024:Int))=false:=by
     rw [show decide (Int.ofNat M.length>(1024:Int))=decide (M.length>1024) from zjp _ 1024]
     exact decide_eq_false (by simp at this; omega)
    simp only [isL,getR,cond_true,cond_false];show (bif decide (Int.ofNat M.length>(1024:Int)) then _ else _)=_
    rw [hM]; rfl
  ·rw [if_neg hk,if_neg hk]; rfl
end Go.Proofs.YtoknknbmfmddbaaGreatDoor
/- Relations: the normal form, by the reference. -/
set_option maxRecDepth 100000
namespace Go.Proofs.YtoknknbmfmddbaaGreatDoor
open Go Go.Ab
theorem z4W {ρ:Type} (c:ρ->ρ->Int) (add:ρ->ρ->Option ρ) (x:ρ):∀ l:List ρ,zg8 c add l x=match l.dropWhile (λy=>decide (c y x<0)) with
  | []=>some (l.takeWhile (λy=>decide (c y x<0))++[x])
  | y::r=>if c y x=0 then (add y x).map λz=>l.takeWhile (λy=>decide (c y x<0))++z::r else some (l.takeWhile (λy=>decide (c y x<0))++x::y::r)
 | []=>rfl
 | y::l=>by
  rw [zg8,List.dropWhile_cons,List.takeWhile_cons];by_cases h:c y x<0
  ·rw [if_pos h,z4W c add x l,decide_eq_true h,if_pos rfl,if_pos rfl];cases l.dropWhile (λy=>decide (c y x<0)) with
   | nil=>rfl
   | cons z r=>
    simp only;by_cases e:c z x=0
    ·rw [if_pos e,if_pos e]; cases add z x <;>rfl
    ·rw [if_neg e,if_neg e]; rfl
  ·rw [if_neg h,decide_eq_false h];simp only [Bool.false_eq_true,if_false,List.nil_append]
theorem zW4 {ρ σ:Type} (p:ρ->Bool) (f:σ->ρ->σ):∀ (l:List ρ) (s:σ),(l.filter p).foldl f s=l.foldl (λs x=>if p x=true then f s x else s) s
 | [],s=>rfl
 | x::l,s=>by
  rw [List.filter_cons,List.foldl_cons];cases h:p x with
  | true=>rw [if_pos rfl,if_pos rfl,List.foldl_cons,zW4 p f l]
  | false=>rw [if_neg (by simp),if_neg (by simp),zW4 p f l]
theorem zbcH {l:yF} {x:Row} (hl:l.length<=1000) (hV:∀ w∈l,zpt w) (hx:zpt x):∃ s,zHj l x=(true,match zg8 cR zeN l x with | some N=>(N,true) | none=>(s,false)):=by
 unfold zHj zZb
 have hscan:=zJp (W:=zKf) (z:=default) l (λy=>decide (cR y x<0)) (λi=>(l,(),(i:Int),())) (λ_=>(x,())) (λk=>(l,(k:Int),x))
  (λi hi H K D=>by
   show (zyn l i x).ev H K D=_;unfold zyn;simp only [Wy.ev_i,Wy.ev_k,Wy.ev_h,Wy.ev_bn,Wy.ev_d,tT,hi,zvS _ _ (hV _ (zn hi)).1,zw (show i<4611686018427387904 by omega)]
   rfl)
  (λH K D=>by
   show (zyn l l.length x).ev H K D=_;unfold zyn;simp only [Wy.ev_i,Wy.ev_k,tT,Nat.lt_irrefl]) (l.length+Int.toNat (0:Int)+x.Values.length+x.Ann.length+(1:Nat)) (by omega)
 have hscan':zVD (l.length+Int.toNat (0:Int)+x.Values.length+x.Ann.length+(1:Nat)) l (0:Int) x=_:=hscan;have htake:=zPR (λy=>decide (cR y x<0)) l
 have hdrop:=zPH (λy=>decide (cR y x<0)) l
 have hle:=zbeF (λy=>decide (cR y x<0)) l
 obtain ⟨k,hk0⟩:∃ k,k=(l.takeWhile λy=>decide (cR y x<0)).length:=⟨_,rfl⟩
 rw [<- hk0] at hscan' htake hdrop hle;rw [Wy.fin_bn,hscan',cond_true,z4W, <- htake, <- hdrop];clear hscan hscan' hk0;have b1:decide ((0+(l.take k).length)*(48:Nat)<=zA)=true:=decide_eq_true (zqD (by rw [List.length_take]; omega) (by omega))
 have b2:∀ z:Row,decide ((([]++l.take k).length+[z].length)*(48:Nat)<=zA)=true:=λz=>decide_eq_true (zqD (by simp; omega) (by omega))
 have b3:∀ z:Row,decide ((([]++l.take k++[z]).length+(l.drop (k+1)).length)*(48:Nat)<=zA)=true:=λz=>decide_eq_true (zqD (by simp; omega) (by omega))
 have b4:∀ z:Row,decide ((([]++l.take k++[z]).length+(l.drop k).length)*(48:Nat)<=zA)=true:=λz=>decide_eq_true (zqD (by simp; omega) (by omega))
 have hkl:decide ((k:Int)<=Int.ofNat l.length)=true:=by rw [show decide ((k:Int)<=Int.ofNat l.length)=decide (k<=l.length) from zoF _ _]; exact decide_eq_true hle
 by_cases hk:k<l.length
 ·have hy:=hV _ (zn hk);have hk':decide ((k:Int)<Int.ofNat l.length)=true:=by simp [hk]
  have hk1:decide (((k+1:Nat):Int)<=Int.ofNat l.length)=true:=by rw [show decide (((k+1:Nat):Int)<=Int.ofNat l.length)=decide (k+1<=l.length) from zoF _ _]; exact decide_eq_true (by omega)
  rw [zbg hk];simp only [Wy.fin_i,Wy.fin_k,Wy.fin_bn,Int.le_refl,decide_true,zep,hkl,hk',hk1,Bool.and_self,Bool.true_and,cond_true,Int.toNat_natCast,zQv,zxc,b1,b2,b3,b4,zS7 _ x.Values hy.1,zbd9 hy.2.1 hx.2.1,zw (show k<4611686018427387904 by omega)]
  by_cases e:(l.getD k default).Values=x.Values
  ·rw [decide_eq_true e,cond_true,if_pos (show cR (l.getD k default) x=0 from (zSA _ _).2 e)]
   by_cases e2:(zkQ (l.getD k default).Ann x.Ann).2=0
   ·have ea:zeN (l.getD k default) x=some ⟨(l.getD k default).Values,(zkQ (l.getD k default).Ann x.Ann).1⟩:=by unfold zeN; rw [if_pos e2]
    rw [ea,e,e2];exact ⟨[],by simp⟩
   ·have ea:zeN (l.getD k default) x=none:=by unfold zeN; rw [if_neg e2]
    rw [ea];have:((zkQ (l.getD k default).Ann x.Ann).2==(0:Int))=false:=by rw [zf8]; exact decide_eq_false e2
    rw [this];exact ⟨_,rfl⟩
  ·rw [decide_eq_false e,cond_false,if_neg (show ¬ cR (l.getD k default) x=0 from λh=>e ((zSA _ _).1 h)), <- zbg hk]
   simp only [b4,cond_true];exact ⟨[],by simp⟩
 ·have:k=l.length:=by omega
  subst this;have hk':decide ((l.length:Int)<Int.ofNat l.length)=false:=by simp
  simp only [Wy.fin_i,Wy.fin_k,Wy.fin_bn,Int.le_refl,decide_true,zep,hkl,hk',Bool.and_self,Bool.true_and,cond_true,cond_false,Int.toNat_natCast,zQv,zxc,b1,b2,b4];rw [List.drop_length];exact ⟨[],by simp⟩
theorem zbaO {M N:yF} {x:Row} (k:∀ w∈M,zpt w) (hx:zpt x) (h:zg8 cR zeN M x=some N):∀ w∈N,zpt w:=by
 induction M generalizing N with
 | nil=>
  rw [zg8,qa] at h;subst h;intro w hw; rw [qh.1 hw]; exact hx
 | cons y M ih=>
  have k':∀ w∈M,zpt w:=λw hw=>k w (by simp [hw])
  intro w hw;rw [zg8] at h;split at h
  ·cases e:zg8 cR zeN M x with
   | none=>rw [e] at h; cases h
   | some K=>
    rw [e,Option.map_some,qa] at h;subst h;rcases qd.1 hw with rfl | hw
    ·exact k w (by simp)
    ·exact ih k' e w hw
  ·split at h
   ·cases e:zeN y x with
    | none=>rw [e] at h; cases h
    | some z=>
     rw [e,Option.map_some,qa] at h;subst h;rcases qd.1 hw with rfl | hw
     ·exact (zbdH.key y x _ (k y (by simp)) hx e).1
     ·exact k' w hw
   ·rw [qa] at h;subst h;rcases qd.1 hw with rfl | hw
    ·exact hx
    ·exact k w hw
theorem z5k (r:Relation) (h:okRel r):∀ (n i:Nat),r.Rows.length<i+n->i<=r.Rows.length->zGA n i r=(true,if zE0 r.Columns (r.Rows.drop i)=0 then .inr r else .inl (zE0 r.Columns (r.Rows.drop i)))
 | 0,i,h1,h2=>by omega
 | n+1,i,h1,h2=>by
  show (zyN i r).ev (zB zyC (.inl default) n) (λr=>(true,r)) (false,.inl default)=_
  unfold zyN;have hl:=h.rows;by_cases hi:i<r.Rows.length
  ·obtain ⟨k1,k2,k3⟩:=h.row _ (zn hi);simp only [Wy.ev_i,Wy.ev_k,Wy.ev_h,Wy.ev_bn,Wy.ev_d,tT,hi,zHI _ _ h.cols,k2.rvalid,zw (show i<4611686018427387904 by omega)]
   rw [zbg hi,zE0];cases zoS r.Columns (r.Rows.getD i default).Values with
   | false=>rfl
   | true=>
    cases zU (r.Rows.getD i default).Ann with
    | false=>rfl
    | true=>exact z5k r h n (i+1) (by omega) (by omega)
  ·simp only [Wy.ev_i,Wy.ev_k,Wy.ev_h,Wy.ev_bn,Wy.ev_d,tT,hi,zco hi];rfl
theorem z5q:∀ l:yF,l.foldl (λo x=>if zeM x=true then o.bind (λM=>zg8 cR zeN M x) else o) none=none
 | []=>rfl
 | x::l=>by
  rw [List.foldl_cons];have:(if zeM x=true then (none:Option (yF)).bind (λM=>zg8 cR zeN M x) else none)=none:=by split <;>rfl
  rw [this]; exact z5q l
theorem z5s (r:Relation) (hl:r.Rows.length<20) (hV:∀ x∈r.Rows,zpt x):∀ (n i:Nat) (o:yF),r.Rows.length<i+n->i<=r.Rows.length->o.length<=i->(∀ w∈o,zpt w)->
  zET n i r o=(true,match (r.Rows.drop i).foldl (λo x=>if zeM x=true then o.bind (λM=>zg8 cR zeN M x) else o) (some o) with | none=>.inl 6 | some M=>.inr (r,M))
 | 0,i,o,h1,h2,_,_=>by omega
 | n+1,i,o,h1,h2,h3,h4=>by
  show (zxt i r o).ev (zB zxv (.inl default) n) (λr=>(true,r)) (false,.inl default)=_
  unfold zxt;by_cases hi:i<r.Rows.length
  ·have hx:=hV _ (zn hi);have ih:=λo'=>z5s r hl hV n (i+1) o' (by omega) (by omega)
   have e0:(Int.ofNat (r.Rows.getD i default).Ann.length==(0:Int))= !zeM (r.Rows.getD i default):=by
    unfold zeM; rw [Bool.not_not]; exact zrq _ 0
   obtain ⟨s,hs⟩:=zbcH (l:=o) (by omega) h4 hx
   simp only [Wy.ev_i,Wy.ev_k,Wy.ev_h,Wy.ev_bn,Wy.ev_d,tT,hi];rw [show (((r.Rows.getD i default).Ann.length:Int)==(0:Int))=(Int.ofNat (r.Rows.getD i default).Ann.length==(0:Int)) from rfl,e0,hs,zbg hi,List.foldl_cons,zw (by omega)]
   cases hr:zeM (r.Rows.getD i default) with
   | false=>
    rw [if_neg (by simp)]
    exact ih o (by omega) h4
   | true=>
    rw [if_pos rfl,Option.bind_some];cases e:zg8 cR zeN o (r.Rows.getD i default) with
    | none=>rw [z5q]; rfl
    | some N=>exact ih N (by have:=z0d e; omega) (zbaO h4 hx e)
  ·simp only [Wy.ev_i,Wy.ev_k,Wy.ev_h,Wy.ev_bn,Wy.ev_d,tT,hi,zco hi];rfl
theorem zHH (r:Relation) (h:okRel r):zlm r=(true,zt7 r):=by
 unfold zlm zIo zt7;have hl:=h.rows;have hc:=z5k r h (Int.toNat (0:Int)+r.Columns.length+r.Rows.length+(1:Nat)) 0 (by omega) (by omega)
 rw [show ((0:Nat):Int)=(0:Int) from rfl,List.drop_zero] at hc
 rw [Wy.fin_bn,zKp _ h.cols,cond_true,Wy.fin_i];cases hcol:zFQ r.Columns with
 | false=>rfl
 | true=>
  rw [Bool.not_true,cond_false,Wy.fin_bn,hc,cond_true,if_neg (show ¬ (true=false) by decide)]
  by_cases hk:zE0 r.Columns r.Rows=0
  ·rw [if_pos hk,if_pos hk];have hv:=zIZ hk;have hloop:=z5s r hl (λx hx=>⟨(h.row x hx).1,(h.row x hx).2.1,(hv x hx).2⟩) (Int.toNat (0:Int)+r.Columns.length+r.Rows.length+(0:Nat)+(1:Nat)) 0 [] (by omega) (by omega) (by simp) (λw hw=>by cases hw)
   rw [show ((0:Nat):Int)=(0:Int) from rfl,List.drop_zero, <- zW4] at hloop
   simp only [Wy.fin_i,Wy.fin_k,Wy.fin_bn,isL,getL,getR,cond_true,cond_false,hloop];cases e:(r.Rows.filter zeM).foldl (λo x=>o.bind λM=>zg8 cR zeN M x) (some []) with
   | none=>rfl
   | some M=>
    have h1:=zR7 e;have h2:(r.Rows.filter zeM).length<=r.Rows.length:=List.length_filter_le _ _
    have hM:decide (Int.ofNat M.length>(1024:Int))=false:=by
     rw [show decide (Int.ofNat M.length>(1024:Int))=decide (M.length>1024) from zjp _ 1024]
     exact decide_eq_false (by simp at h1; omega)
    simp only [isL,getR,cond_true,cond_false];show (bif decide (Int.ofNat M.length>(1024:Int)) then _ else _)=_
    rw [hM]; rfl
  ·rw [if_neg hk,if_neg hk]; rfl
end Go.Proofs.YtoknknbmfmddbaaGreatDoor
end
