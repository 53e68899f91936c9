/- Texts of this claim, joined (the program, its functions in plain words, and what they compute). -/
import Derived.Test.YtoknknbmfmddbaaGreatDoorGC10
set_option autoImplicit false
set_option linter.unusedVariables false
set_option linter.unusedSectionVars false
set_option linter.unusedSimpArgs false
set_option maxRecDepth 1000000
set_option maxHeartbeats 0
/- Substitution: the reference computes the same; the whole. -/
noncomputable section
namespace Go.Proofs.YtoknknbmfmddbaaGreatDoor
open Go Go.Ab
section
variable (g:At->yE->Bool×(yB×Int)) (l:yE)
end
section
variable (g:yB->yE->Bool×(yB×Int)) (l:yE)
end
theorem zYf:∀ {l:yA} {a:yB},a∈l->zd8 a<=zpo l
 | [],_,h=>by cases h
 | x::r,a,h=>by
  rw [zV5];rcases qd.1 h with rfl | h
  ·omega
  ·have:=zYf h; omega
theorem zVt:∀ {l:yD} {w:Wd},w∈l->zd8 w.Ann<=zkt l
 | [],_,h=>by cases h
 | x::r,a,h=>by
  rw [zGy];rcases qd.1 h with rfl | h
  ·omega
  ·have:=zVt h; omega
theorem zN3:∀ {l:yC} {f:Fc},f∈l->zEk f.At<=zg1 l
 | [],_,h=>by cases h
 | x::r,a,h=>by
  rw [zLG];rcases qd.1 h with rfl | h
  ·omega
  ·have:=zN3 h; omega
theorem z0y:∀ {l:yB} {t:Term},t∈l->zg1 t.Fs<=zd8 l
 | [],_,h=>by cases h
 | x::r,a,h=>by
  rw [zLW];rcases qd.1 h with rfl | h
  ·omega
  ·have:=z0y h; omega
theorem zV2:∀ {l:yD},(∀ w∈l,w.Ann≠[])->l.length<=zkt l
 | [],_=>by simp
 | x::r,h=>by
  rw [zGy];have:=zV2 (l:=r) λw hw=>h w (by simp [hw])
  have h1:1<=zd8 x.Ann:=by
   have:=h x (by simp)
   cases hx:x.Ann with
   | nil=>exact absurd hx this
   | cons t r=>rw [zLW]; omega
  simp only [qf];omega
mutual
def zxJ:At->Prop
 | ⟨_,_,a,_,i,_,_⟩=>i.length<20/\zN2 a/\zH6 i
def zAN:yC->Prop
 | []=>True
 | ⟨x,_⟩::r=>zxJ x/\zAN r
def zbW:yB->Prop
 | []=>True
 | ⟨_,fs⟩::r=>zAN fs/\zbW r
def zN2:yA->Prop
 | []=>True
 | a::r=>zbW a/\zN2 r
def zH6:yD->Prop
 | []=>True
 | ⟨_,a⟩::r=>zbW a/\zH6 r
end
theorem zyc (x:At):zxJ x↔x.Items.length<20/\zN2 x.Ag/\zH6 x.Items:=by cases x; rw [zxJ]
theorem zv0:∀ {l:yC},zAN l↔∀ f∈l,zxJ f.At
 | []=>by rw [zAN]; simp
 | ⟨x,e⟩::r=>by rw [zAN,zv0 (l:=r)]; simp
theorem zEJ:∀ {l:yB},zbW l↔∀ t∈l,zAN t.Fs
 | []=>by rw [zbW]; simp
 | ⟨x,e⟩::r=>by rw [zbW,zEJ (l:=r)]; simp
theorem zu2:∀ {l:yA},zN2 l↔∀ a∈l,zbW a
 | []=>by rw [zN2]; simp
 | a::r=>by rw [zN2,zu2 (l:=r)]; simp
theorem zs0:∀ {l:yD},zH6 l↔∀ w∈l,zbW w.Ann
 | []=>by rw [zH6]; simp
 | ⟨x,e⟩::r=>by rw [zH6,zs0 (l:=r)]; simp
theorem z3y {m:Nat} {a:yB} (h:zbz (m+1) a=true):ze0 a=true/\∀ t∈a,t.Fs.length<=64/\∀ f∈t.Fs,(1<=f.Exp/\f.Exp<=64)/\f.At.Items.length<=1024/\zdU (zbz m) f.At=true:=by
 have hw:=zE8 h;refine ⟨hw,λt ht=> ?_⟩
 obtain ⟨l1,l2⟩:=(zvh hw).2.2.2 t ht;refine ⟨l1,λf hf=> ?_⟩
 obtain ⟨⟨e1,_⟩,hv⟩:=zoL (zul h ht).2 hf;exact ⟨⟨e1,(l2 f hf).1⟩,(l2 f hf).2,hv⟩
theorem zXT:∀ (m:Nat) (a:yB),zbz m a=true->zbz (m+1) a=true
 | 0,_,h=>by cases h
 | m+1,a,h=>by
  have h':zwH (zdU (zbz m)) a=true:=h;obtain ⟨h1,h2,h3⟩:=zQU.1 h';refine (zQU (vat:=zdU (zbz (m+1)))).2 ⟨h1,h2,λt ht=>⟨(h3 t ht).1,(h3 t ht).2.1,λf hf=>⟨((h3 t ht).2.2 f hf).1, ?_⟩⟩⟩
  exact zdl.2 ((zdl.1 ((h3 t ht).2.2 f hf).2).imp (zXT m))
theorem zxQ:∀ {m:Nat} {a:yB},zbz m a=true->zX a=true:=by
 intro m a h
 have key:∀ k,zbz (m+k) a=true:=λk=>by
  induction k with
  | zero=>exact h
  | succ k ih=>exact zXT _ _ ih
 exact z54 (key 9) (by omega)
theorem zbcP {m:Nat} {x:At} (h:zdU (zbz m) x=true) (hm:m<=99):zow x=true:=by
 refine zY5.2 ((zdl.1 h).imp λa ha=> ?_)
 exact zxQ ha
theorem zX9 {V:yB->Bool} {x:At} (h:zdU V x=true):(∀ a∈x.Ag,V a=true)/\∀ w∈x.Items,V w.Ann=true/\w.Ann≠[]:=by
 constructor
 ·cases zdl.1 h <;>simp_all
 ·cases zdl.1 h <;>simp_all
theorem zZh:∀ (m:Nat) (a:yB),zbz m a=true->zd8 a<=38->zbW a
 | 0,_,h,_=>by cases h
 | m+1,a,h,hs=>by
  obtain ⟨_,w2⟩:=z3y h;refine zEJ.2 λt ht=>zv0.2 λf hf=>(zyc _).2 ?_
  have hv:=((w2 t ht).2 f hf).2.2;have h1:=zN3 hf;have h2:=z0y ht;have h3:=z1E f.At;obtain ⟨hargs,hitems⟩:=zX9 hv;refine ⟨by have:=zV2 λw hw=>(hitems w hw).2; omega,zu2.2 λb hb=>zZh m b (hargs b hb) (by have:=zYf hb; omega),zs0.2 λw hw=>zZh m w.Ann (hitems w hw).1 (by have:=zVt hw; omega)⟩
theorem z9C {l:yE} (hl:okB l):∀ n,
  (∀ m a,zbz m a=true->m<=99->zgh a->zbW a->2*m<=n->zkB n a l=(true,ofS (zdr (toA l) a []))/\GS (zdr (toA l) a []))/\
  (∀ m x,zdU (zbz m) x=true->m<=99->zhD x->x.Items.length<=1024->zxJ x->2*m+1<=n->zhN n x l=(true,ofS (zhP (toA l) x))/\GS (zhP (toA l) x))
 | 0=>by
  refine ⟨λm a h _ _ _ hm=> ?_,λm x _ _ _ _ _ hm=>by omega⟩
  have:m=0:=by omega
  subst this; cases h
 | n+1=>by
  obtain ⟨h1,h2⟩:=z9C hl n;have ht:okT (toA l):=zbbd hl.2;refine ⟨λm a h h99 hw hs hm=> ?_,λm x h h99 hw hi hs hm=> ?_⟩
  ·cases m with
   | zero=>cases h
   | succ m=>
    obtain ⟨w1,w2⟩:=z3y h;obtain ⟨a1,a2,a3,a4⟩:=zvh w1;have hwt:=λt (ht:t∈a)=>zuE (zrI hw t ht)
    have hwf:=λt (ht:t∈a) f (hf:f∈t.Fs)=>(zpH (znP (hwt t ht).2.1 f hf)).1
    have hA:∀ t∈a,∀ f∈t.Fs,(zhN n f.At l=(true,ofS (zhP (toA l) f.At))/\GS (zhP (toA l) f.At)):=λt ht f hf=>
     h2 m f.At ((w2 t ht).2 f hf).2.2 (by omega) (hwf t ht f hf) ((w2 t ht).2 f hf).2.1 (zv0.1 (zEJ.1 hs t ht) f hf) (by omega)
    have hE:=λt (ht:t∈a) f (hf:f∈t.Fs)=>((w2 t ht).2 f hf).1
    have hok:∀ t∈a,∀ p,okA p->GS (zej (toA l) t.Fs p):=λt ht' p hp=>zIX ht t.Fs 9 (λf hf=>⟨hwf t ht' f hf,zvg ((w2 t ht').2 f hf).2.2 ((w2 t ht').2 f hf).2.1⟩) p hp
    have hG:GS (zdr (toA l) a []):=zPE ht a 9 hw (λt ht f hf=>zvg ((w2 t ht).2 f hf).2.2 ((w2 t ht).2 f hf).2.1) [] zlD
    refine ⟨?_,hG⟩
    ·rw [zKW];exact zbgU _ l a (by omega) (λt ht=>⟨by have:=(w2 t ht).1; omega,λf hf=>⟨⟨(hA t ht f hf).1,(hA t ht f hf).2⟩,by have:=(hE t ht f hf).1; omega,by have:=(hE t ht f hf).2; omega⟩⟩) hok
  ·have hf:=zvg h hi;have hw':=zsa hw;have hv:=zbcP h h99;obtain ⟨h20,s1,s2⟩:=(zyc x).1 hs;obtain ⟨hargs,hitems⟩:=zX9 h;have ga:=λa (ha:a∈x.Ag)=>h1 m a (hargs a ha) h99 (zje hw'.1.1 a ha).1 (zu2.1 s1 a ha) (by omega)
   have gi:=λw (hw:w∈x.Items)=>h1 m w.Ann (hitems w hw).1 h99 (zi9 hw'.2.1.1 w hw).2.1 (zs0.1 s2 w hw) (by omega)
   have sa:=zVl ht x.Ag 9 (λa ha=>(zje hw'.1.1 a ha).1) hf.2.1
   have si:=zPH ht x.Items 9 (λw hw=>(zi9 hw'.2.1.1 w hw).2.1) λw hw=>(hf.2.2 w hw).2
   refine ⟨?_,z4c ht x 9 hw hf⟩
   ·rw [zFl];exact zbeM _ l hl x ⟨hv,⟨hf.1.1,h20⟩,λa ha=>⟨(ga a ha).1,(ga a ha).2⟩,λw hw=>⟨(gi w hw).1,(gi w hw).2⟩,sa,si,hw⟩
def zbcj (a:yB) (l:yE):yB×Int:=opR (zX a&&l.all λb=>zX b.To) (ofS (zdr (toA l) a []))
theorem zbgE {l:yE} (h:okB l):zca l=(true, !l.all λb=>zX b.To):=by
 unfold zca zhi;have:zdw l=IG (λ(_:Unit) x=>zhK x) (l.length+(Int.ofNat l.length).toNat +Int.toNat (0:Int)+(1:Nat)) () l:=rfl
 rw [zj4 (P:=λb=> !zX b.To) (this.trans (zH3 _ _ _ _ _ (by have:=h.1; omega) (λx hx=>by
  unfold zhK zvD;rw [Wy.fin_bn,(h.2 x hx).valid]; rfl) (by omega)))]
 simp [List.all_eq_not_any_not]
theorem z1V {a:yB} {l:yE} (oa:okA a) (ha:zX a=true->zbW a) (h:okB l):zjq a l=(true,zbcj a l):=by
 have key:zX a=true->zx4 a l=(true,ofS (zdr (toA l) a [])):=λhv=>((z9C h 1000).1 9 a (zZe hv (Nat.le_refl 9)) (by omega) oa.2.1 (ha hv) (by omega)).1
 unfold zjq zyA zbcj;simp only [Wy.fin_i,Wy.fin_bn,Wy.fin_k,oa.valid,cond_true,zbgE h];cases hv:zX a with
 | false=>rfl
 | true=>
  cases (l.all λb=>zX b.To) with
  | false=>rfl
  | true=>
   simp only [Bool.not_true,cond_false,key hv,cond_true];rfl
def zbg7 (a b:yB):yB:=if b=[] then a else if a=[]\/a=b then [] else zcN (z9N a b)
def zbgZ (a:yB):yB:=if a=[]\/isU a=true then a else if isC a=true then [⟨1,[]⟩] else zcN (z2H a)
def zbg6 (a:yB):yB:=if a=[] then [⟨1,[]⟩] else if zwm a=true then [] else zcN (z9K a)
def zbgX (f:Int) (l:yD) (o:Int) (b:Value):yB:=
 if 0<(zdJ l).length then zcN (zNf f (zdJ l) o b) else if (f==0&&zL4 o (zdX 0 b.Int))=true then [⟨1,[]⟩] else []
def IdP (a:yB):Prop:=a=[]\/a=[⟨1,[]⟩]\/∃ x:At,(x.Kind=3\/x.Kind=4)/\a=zcN x
def zbeU (b:yB):Nat->yB
 | 0=>[⟨1,[]⟩]
 | n+1=>ztd b (zbeU b n)
section
variable (σ:At->yB)
def SG (x:At):Prop:=PA (σ x)/\(x.Kind=3\/x.Kind=4->IdP (σ x))
variable {σ}
def EA (σ:At->yB) (a:yB):Prop:=PA a/\∀ t∈a,∀ f∈t.Fs,SG σ f.At
theorem EA.p {a:yB} (h:EA σ a):∀ t∈a,cOK t/\∀ f∈t.Fs,SG σ f.At:=λt ht=>⟨h.1.c t ht,h.2 t ht⟩
theorem EA.sum {a b:yB} (ha:EA σ a) (hb:EA σ b):EA σ (zeC a b):=⟨zbfb ha.1 hb.1,λt ht f hf=>by
 obtain ⟨x,hx,e⟩:=zIa b a ha.1.1 ht;rw [e] at hf;rcases hx with hx | hx
 ·exact ha.2 x hx f hf
 ·exact hb.2 x hx f hf⟩
end
mutual
def zbfp (to:RowID->yB):At->yB
 | ⟨k,r,a,f,i,o,b⟩=>if k=0 then to r else if k=1 then zbg7 ((zTC to a).getD 0 default) ((zTC to a).getD 1 default) else if k=2 then zbgZ ((zTC to a).getD 0 default)
  else if k=3 then zbg6 ((zTC to a).getD 0 default) else zbgX f (z8K to i) o b
def zbbG (to:RowID->yB):yC->yB
 | []=>[⟨1,[]⟩]
 | ⟨x,e⟩::r=>ztd (zbeU (zbfp to x) e.toNat) (zbbG to r)
def zbax (to:RowID->yB):yB->yB->yB
 | [],s=>s
 | ⟨c,fs⟩::r,s=>zbax to r (zeC s (ztd [⟨c,[]⟩] (zbbG to fs)))
def zTC (to:RowID->yB):yA->yA
 | []=>[]
 | a::r=>zbax to a []::zTC to r
def z8K (to:RowID->yB):yD->yD
 | []=>[]
 | ⟨v,a⟩::r=>⟨v,zbax to a []⟩::z8K to r
end
section
variable (to:RowID->yB)
variable {to} (hto:∀ r,PA (to r))
include hto
omit hto in
theorem zbej {c:Int} (h:1<=c/\c<=1152921504606846976):zAB c=[⟨c,[]⟩]:=by
 unfold zAB; rw [if_neg (by omega),if_neg (by omega)]
end
theorem zFk {a:yB}:ze0 a=true↔a.length<=512/\zbo a<=8/\zN a<=4096/\∀ t∈a,t.Fs.length<=64/\∀ f∈t.Fs,f.Exp<=64/\f.At.Items.length<=1024:=by
 refine ⟨zvh,λ⟨h1,h2,h3,h4⟩=> ?_⟩
 unfold ze0;simp only [qc,qe];refine ⟨⟨⟨h1,h2⟩,h3⟩,List.all_eq_true.2 λt ht=> ?_⟩
 obtain ⟨h5,h6⟩:=h4 t ht;unfold zzY;rw [Bool.not_eq_true',Bool.or_eq_false_iff];refine ⟨by simp; omega, ?_⟩
 rw [List.any_eq_false];intro f hf;obtain ⟨h7,h8⟩:=h6 f hf;simp;exact ⟨h7,h8⟩
theorem z0j:∀ a b:yB,zN (a++b)=zN a+zN b
 | [],b=>by rw [zuD]; simp
 | t::r,b=>by rw [List.cons_append,zfq,zfq,z0j r b]; omega
theorem zZP:∀ a b:yB,zbo (a++b)=max (zbo a) (zbo b)
 | [],b=>by rw [zHG]; simp
 | t::r,b=>by rw [List.cons_append,zwc,zwc,zZP r b]; omega
theorem zEt:∀ a b:yC,zbH (a++b)=zbH a+zbH b
 | [],b=>by rw [zia]; simp
 | t::r,b=>by rw [List.cons_append,zcR,zcR,zEt r b]; omega
theorem zEs:∀ a b:yC,zc7 (a++b)=max (zc7 a) (zc7 b)
 | [],b=>by rw [zpr]; simp
 | t::r,b=>by rw [List.cons_append,ziR,ziR,zEs r b]; omega
structure FB (l:yC):Prop where
 len:l.length<=64
 nes:zc7 l<=8
 siz:1+l.length+zbH l<=4096
 fs:∀ f∈l,f.Exp<=64/\f.At.Items.length<=1024
theorem FB.wi {l:yC} (h:FB l) (c:Int):ze0 [⟨c,l⟩]=true:=zFk.2 ⟨by simp,by rw [zwc,zHG]; have:=h.nes; simp only; omega,by rw [zfq,zuD]; have:=h.siz; simp only; omega,λt ht=>by
 rw [qh] at ht; subst ht; exact ⟨h.len,h.fs⟩⟩
theorem FB.of {a:yB} (h:ze0 a=true) {t:Term} (ht:t∈a):FB t.Fs:=by
 obtain ⟨h1,h2,h3,h4⟩:=zFk.1 h;obtain ⟨h5,h6⟩:=h4 t ht;refine ⟨h5,Nat.le_trans (z0p ht) h2, ?_,h6⟩
 have key:∀ {a:yB},t∈a->1+t.Fs.length+zbH t.Fs<=zN a:=by
  intro a;induction a with
  | nil=>intro h; cases h
  | cons u r ih=>
   intro h;rw [zfq];rcases qd.1 h with rfl | h
   ·omega
   ·have:=ih h; omega
 have:=key ht;omega
theorem FB.app {a b:yC} (h:FB (a++b)):FB a/\FB b:=by
 obtain ⟨h1,h2,h3,h4⟩:=h;rw [qg] at h1 h3;rw [zEs] at h2;rw [zEt] at h3;exact ⟨⟨by omega,by omega,by omega,λf hf=>h4 f (by simp [hf])⟩,⟨by omega,by omega,by omega,λf hf=>h4 f (by simp [hf])⟩⟩
theorem FB.exp {P:yC} {x:At} {e j:Int} (h:FB (P++[⟨x,e⟩])) (hj:j<=64):FB (P++[⟨x,j⟩]):=by
 obtain ⟨h1,h2,h3,h4⟩:=h;rw [qg] at h1 h3;rw [zEs,ziR,zpr] at h2;rw [zEt,zcR,zia] at h3;refine ⟨by rw [qg]; exact h1,by rw [zEs,ziR,zpr]; exact h2,by rw [qg,zEt,zcR,zia]; exact h3,λf hf=> ?_⟩
 rcases List.mem_append.1 hf with hf | hf
 ·exact h4 f (by simp [hf])
 ·rw [qh] at hf; subst hf;exact ⟨hj,(h4 ⟨x,e⟩ (by simp)).2⟩
theorem OKF.app {a b:yC} (h:OKF zow (a++b)):OKF zow a/\OKF zow b:=⟨⟨(List.pairwise_append.1 h.1).1,λf hf=>h.2 f (by simp [hf])⟩,⟨(List.pairwise_append.1 h.1).2.1,λf hf=>h.2 f (by simp [hf])⟩⟩
theorem OKF.exp {P:yC} {x:At} {e j:Int} (h:OKF zow (P++[⟨x,e⟩])) (h1:1<=j) (h2:j<=e):OKF zow (P++[⟨x,j⟩]):=by
 have hx:=h.2 ⟨x,e⟩ (by simp)
 refine ⟨List.pairwise_append.2 ⟨(List.pairwise_append.1 h.1).1,by simp,λa ha b hb=> ?_⟩,λf hf=> ?_⟩
 ·rw [qh] at hb; subst hb;exact (List.pairwise_append.1 h.1).2.2 a ha ⟨x,e⟩ (by simp)
 ·rcases List.mem_append.1 hf with hf | hf
  ·exact h.2 f (by simp [hf])
  ·rw [qh] at hf; subst hf;refine ⟨⟨h1,λhk=> ?_⟩,hx.2⟩
   have:=hx.1.2 hk;have h3:e=1:=this;show j=1;omega
theorem z1M {c:Int} {F:yC} (hc:1<=c/\c<=1152921504606846976) (hF:OKF zow F) (hb:FB F):zX [⟨c,F⟩]=true:=zux.2 ⟨hb.wi c,by simp,λt ht=>by
 rw [qh] at ht; subst ht; exact ⟨hc,hF⟩⟩
theorem z4m {y:Fc}:∀ {P:yC},(∀ z∈P,cF z y<0)->zbK P [y]=P++[y]
 | [],_=>by rw [zbK]; rfl
 | z::r,h=>by rw [zbK,if_pos (h z (by simp)),z4m λw hw=>h w (by simp [hw])]; rfl
theorem zV7 {x:At} {j:Int} (hk:¬ (x.Kind=3\/x.Kind=4)):∀ {P:yC},(∀ z∈P,cF z ⟨x,1⟩<0)->zbK (P++[⟨x,j⟩]) [⟨x,1⟩]=P++[⟨x,j+1⟩]
 | [],_=>by
  have e:cF ⟨x,j⟩ ⟨x,1⟩=0:=cF_self' rfl;show zbK [⟨x,j⟩] [⟨x,1⟩]=[⟨x,j+1⟩];rw [zbK,e,if_neg (by omega),if_neg (by omega),if_neg hk,zbK]
 | z::r,h=>by
  show zbK (z::(r++[⟨x,j⟩])) [⟨x,1⟩]=_;rw [zbK,if_pos (h z (by simp)),zV7 hk λw hw=>h w (by simp [hw])]; rfl
theorem z3l {c:Int} (hc:1<=c/\c<=1152921504606846976) (M:yC) (x:At):ztd [⟨c,M⟩] (zcN x)=[⟨c,zbK M [⟨x,1⟩]⟩]:=by
 show zeC [] [zk7 ⟨c,M⟩ ⟨1,[⟨x,1⟩]⟩]=_;unfold zk7;simp only [zbaD hc.2];rfl
section
variable {c:Int} (hc:1<=c/\c<=1152921504606846976)
include hc
theorem z7U {P:yC} {x:At} {e:Int} (hF:OKF zow (P++[⟨x,e⟩])) (hb:FB (P++[⟨x,e⟩])) (hv:zX (zcN x)=true):
  ∀ (n j:Nat),1<=j->(j+n:Int)=e->zz4 (zcN x) n [⟨c,P++[⟨x,(j:Int)⟩]⟩]=.inr [⟨c,P++[⟨x,e⟩]⟩]
 | 0,j,_,h=>by rw [show (j:Int)=e from by omega]; rfl
 | n+1,j,h1,h=>by
  have he:=(hF.2 ⟨x,e⟩ (by simp)).1
  have he64:=(hb.fs ⟨x,e⟩ (by simp)).1
  have hk:¬ (x.Kind=3\/x.Kind=4):=λhk=>by
   have:e=1:=he.2 hk;omega
  have he64:e<=64:=he64;have hj:=z1M hc (hF.exp (j:=(j:Int)) (by omega) (by omega)) (hb.exp (j:=(j:Int)) (by omega))
  have hlt:∀ z∈P,cF z ⟨x,1⟩<0:=λz hz=>(List.pairwise_append.1 hF.1).2.2 z hz ⟨x,e⟩ (by simp)
  have hp:ztd [⟨c,P++[⟨x,(j:Int)⟩]⟩] (zcN x)=[⟨c,P++[⟨x,((j+1:Nat):Int)⟩]⟩]:=by
   rw [z3l hc,zV7 hk hlt]; rfl
  unfold zz4;rw [z9z hj hv (by rw [hp]; exact (hb.exp (by omega)).wi c),hp,z7g,zdn]
  exact z7U hF hb hv n (j+1) (by omega) (by omega)
theorem z5W:∀ {l:yC} {P:yC},OKF zow (P++l)->FB (P++l)->(∀ f∈l,zhP zjm f.At=.inr (zcN f.At)/\zX (zcN f.At)=true)->zej zjm l [⟨c,P⟩]=.inr [⟨c,P++l⟩]
 | [],P,_,_,_=>by rw [zRz,List.append_nil]
 | ⟨x,e⟩::r,P,hF,hb,h=>by
  have hx:=h ⟨x,e⟩ (by simp)
  have e2:P++⟨x,e⟩::r=(P++[⟨x,e⟩])++r:=by simp
  rw [e2] at hF hb ⊢;have hF1:=hF.app.1;have hb1:=hb.app.1;have he:=(hF1.2 ⟨x,e⟩ (by simp)).1.1
  have he:1<=e:=he;have he64:e<=64:=(hb1.fs ⟨x,e⟩ (by simp)).1
  rw [zOX,show zhP zjm (⟨x,e⟩:Fc).At=.inr (zcN x) from hx.1,zdn]
  have hp:zz4 (zcN x) (⟨x,e⟩:Fc).Exp.toNat [⟨c,P⟩]=.inr [⟨c,P++[⟨x,e⟩]⟩]:=by
   obtain ⟨n,hn⟩:∃ n:Nat,e=n+1:=⟨(e - 1).toNat,by omega⟩
   show zz4 (zcN x) e.toNat [⟨c,P⟩]=_;rw [show e.toNat=n+1 from by omega]
   have hv0:zX [⟨c,P⟩]=true:=z1M hc hF1.app.1 hb1.app.1;have hlt:∀ z∈P,cF z ⟨x,1⟩<0:=λz hz=>(List.pairwise_append.1 hF1.1).2.2 z hz ⟨x,e⟩ (by simp)
   have hp:ztd [⟨c,P⟩] (zcN x)=[⟨c,P++[⟨x,1⟩]⟩]:=by rw [z3l hc,z4m hlt]
   unfold zz4;rw [z9z hv0 hx.2 (by rw [hp]; exact (hb1.exp (by omega)).wi c),hp,z7g,zdn]
   exact z7U hc hF1 hb1 hx.2 n 1 (by omega) (by omega)
  rw [hp,zdn];exact z5W hF hb λf hf=>h f (by simp [hf])
end
theorem zEB {s r:yB} (h:zX (s++r)=true):zX s=true/\zX r=true:=by
 obtain ⟨h1,h2,h3⟩:=zux.1 h;obtain ⟨w1,w2,w3,w4⟩:=zFk.1 h1;rw [qg] at w1;rw [zZP] at w2;rw [z0j] at w3
 exact ⟨zux.2 ⟨zFk.2 ⟨by omega,by omega,by omega,λt ht=>w4 t (by simp [ht])⟩,(List.pairwise_append.1 h2).1,λt ht=>h3 t (by simp [ht])⟩,
  zux.2 ⟨zFk.2 ⟨by omega,by omega,by omega,λt ht=>w4 t (by simp [ht])⟩,(List.pairwise_append.1 h2).2.1,λt ht=>h3 t (by simp [ht])⟩⟩
theorem z6R:∀ {r s:yB},zX (s++r)=true->(∀ t∈r,∀ f∈t.Fs,zhP zjm f.At=.inr (zcN f.At)/\zX (zcN f.At)=true)->zdr zjm r s=.inr (s++r)
 | [],s,_,_=>by rw [z4l,List.append_nil]
 | t::r,s,hv,h=>by
  have e2:s++t::r=(s++[t])++r:=by simp
  rw [e2] at hv ⊢;obtain ⟨h1,h2⟩:=zux.1 (zEB hv).1;have ht:=h2.2 t (by simp)
  have hb:FB t.Fs:=FB.of h1 (by simp)
  have hf:=z5W ht.1 (l:=t.Fs) (P:=[]) ht.2 hb (h t (by simp))
  have hadd:zkF s [t]=(s++[t],0):=by
   have e:zeC s [t]=s++[t]:=z2d _ _ h2.1;rw [zbep (zEB (zEB hv).1).1 (zEB (zEB hv).1).2 (by rw [e]; exact h1),e]
  rw [z0t,zbej ht.1,hf,zdn];show sbd (opS (zkF s [t])) _=_;rw [hadd,z7g,zdn];exact z6R hv λu hu=>h u (by simp [hu])
theorem zbcE {d:Nat} {l:yD} (hl:l.length<=1000000) (h:∀ w∈l,zo d w.Ann/\w.Ann≠[]) (hd:d<=99) (hs:zUL l=true):zdJ l=l:=by
 have e:l.filter zlB=l:=List.filter_eq_self.2 λw hw=>by
  have:=(h w hw).2;unfold zlB;cases hx:w.Ann with
  | nil=>exact absurd hx this
  | cons x r=>simp
 unfold zdJ;rw [e]
 have hp:l.Pairwise λx y=>zbb (zbc x) (zbc y)<=0:=zty (R:=λx y=>zbb (zbc x) (zbc y)<=0) (λx y z h1 h2=>zrC _ _ _ h1 h2) l λk hk hl'=>by
  have:=zdP.1 hs k (by omega) (by omega)
  unfold zQv at this;rw [Bool.or_eq_true,qe,qe] at this;rcases this with e | e
  ·omega
  ·exact e
 refine ((zIJ hl (λw hw=>(h w hw).1) hd).unique (.refl _) ?_).symm
 refine hp.imp_of_mem λ{x y} hx hy hxy=> ?_
 rw [zjf (h y hy).1 hd,zfE (zbc x) (zbc y)];simp only; omega
def AB (x:At):Prop:=zni x<=8/\zeR x+2<=4096/\x.Items.length<=1024
theorem AB.wi {x:At} (h:AB x):ze0 (zcN x)=true:=(FB.wi (l:=[⟨x,1⟩]) ⟨by simp,by rw [ziR,zpr]; have:=h.1; simp only; omega,by rw [zcR,zia]; have:=h.2.1; simp only [List.length_singleton]; omega,λf hf=>by
 rw [qh] at hf; subst hf; exact ⟨by simp,h.2.2⟩⟩ 1)
theorem AB.of {l:yC} (h:FB l) {f:Fc} (hf:f∈l):AB f.At:=by
 refine ⟨Nat.le_trans (zNh hf) h.nes, ?_,(h.fs f hf).2⟩;have h1:=zOg hf
 have h2:1<=l.length:=by cases l with
  | nil=>cases hf
  | cons a r=>simp
 have:=h.siz;omega
theorem zbea {m:Nat} (hA:∀ a,zbz m a=true->zdr zjm a []=.inr a) (x:At) (h:zdU (zbz m) x=true) (hx:AB x):zhP zjm x=.inr (zcN x):=by
 have hw:=hx.wi;rw [z3V];cases zdl.1 h with
 | var r hr=>
  simp only [if_true];unfold zjm; rw [hr]; rfl
 | mon a b ha hb ha0 hb0 hab=>
  simp only [show ¬ (1:Int)=0 from by omega,if_false,if_true]
  rw [zzK,hA a ha,zdn,zzK,hA b hb,zdn,zBP,zdn,zdn,zdn];show opS (zQp a b)=_;unfold zQp opR;rw [zxQ ha,zxQ hb,if_neg hb0,if_neg (by simp [ha0,hab])]
  show opS (zlO (zcN (z9N a b)))=_;rw [zH7 (a:=zcN (z9N a b)) hw]; rfl
 | del a ha ha0 hc hu=>
  simp only [show ¬ (2:Int)=0 from by omega,show ¬ (2:Int)=1 from by omega,if_false,if_true]
  rw [zzK,hA a ha,zdn,zBP,zdn,zdn];show opS (zQM a)=_;unfold zQM opR;rw [zxQ ha,if_neg (by simp [ha0,hu]),if_neg (by simp [hc])]
  show opS (zlO (zcN (z2H a)))=_;rw [zH7 (a:=zcN (z2H a)) hw]; rfl
 | abs a ha ha0 hc=>
  simp only [show ¬ (3:Int)=0 from by omega,show ¬ (3:Int)=1 from by omega,show ¬ (3:Int)=2 from by omega,if_false,if_true]
  rw [zzK,hA a ha,zdn,zBP,zdn,zdn];show opS (zQg a)=_;unfold zQg opR;rw [zxQ ha,if_neg ha0,if_neg (by simp [hc])]
  show opS (zlO (zcN (z9K a)))=_;rw [zH7 (a:=zcN (z9K a)) hw]; rfl
 | tst f l o b hl hi hs hf=>
  simp only [show ¬ (4:Int)=0 from by omega,show ¬ (4:Int)=1 from by omega,show ¬ (4:Int)=2 from by omega,show ¬ (4:Int)=3 from by omega,if_false]
  have key:∀ l:yD,(∀ w∈l,zbz m w.Ann=true)->zhe zjm l=.inr l:=by
   intro l;induction l with
   | nil=>intro _; rw [zX0]
   | cons w r ih=>
    intro hm;rw [zUk,hA w.Ann (hm w (by simp)),zdn,ih λv hv=>hm v (by simp [hv]),zdn]
  have hlen:l.length<=1024:=hx.2.2;have hs':=zbcE (d:=9) (l:=l) (by omega) (λw hw=>⟨(zeJ (hi w hw).1).1,(hi w hw).2⟩) (by omega) hs
  rw [zBP,zdn,key l λw hw=>(hi w hw).1,zdn]
  show opS (zwR f l o b)=_;unfold zwR;have hall:(l.all λw=>zX w.Ann)=true:=List.all_eq_true.2 λw hw=>zxQ (hi w hw).1
  have hpos:0<l.length:=by cases l with
   | nil=>exact absurd rfl hl
   | cons a r=>simp
  rw [hf,hall,hs',decide_eq_true hpos];show opS (zlO (zcN (zNf f l o b)))=_;rw [zH7 (a:=zcN (zNf f l o b)) hw]; rfl
theorem zbbM:∀ m,∀ a,zbz m a=true->zdr zjm a []=.inr a
 | 0,a,h=>by cases h
 | m+1,a,h=>by
  obtain ⟨h1,_,h3⟩:=zQU.1 (show zwH (zdU (zbz m)) a=true from h)
  exact z6R (s:=[]) (zxQ h) λt ht f hf=>by
   have hb:=AB.of (FB.of h1 ht) hf;have hv:=((h3 t ht).2.2 f hf).2;exact ⟨zbea (zbbM m) f.At hv hb,z9J (zY5.2 ((zdl.1 hv).imp λa ha=>zxQ ha)) hb.wi⟩
theorem zbf2 {a:yB} (h:zX a=true):zdr zjm a []=.inr a:=zbbM 100 a h
def dvF (a b:yC):Bool:=a.all λf=>b.any λg=>decide (f.Exp<=g.Exp)&&decide (f.At=g.At)
theorem zbam {α:Type} (e:α->TT) (he:∀ a b,e a=e b->a=b):Ord3 λa b=>zbb (e a) (e b) where
 eq x y:=⟨λh=>he _ _ (zry _ _ h),λh=>by subst h; exact zBc _⟩
 swap x y:=by rw [zfE (e x) (e y)]; omega
 trans x y z h1 h2:=by
  have h3:zbb (e x) (e z)<=0:=zrC _ _ _ (Int.le_of_lt h1) (Int.le_of_lt h2);by_cases h4:zbb (e x) (e z)=0
  ·have h5:=zry _ _ h4;rw [h5,zfE (e y) (e z)] at h1;omega
  ·omega
abbrev zbck (l:yC):Prop:=l.Pairwise λf g=>zbb (zdN f.At) (zdN g.At)<0
theorem zbck.uniq {l:yC} (h:zbck l):∀ f∈l,∀ g∈l,f.At=g.At->f=g:=by
 induction l with
 | nil=>intro f hf; cases hf
 | cons x r ih=>
  have h:=qi.1 h
  have ne:∀ g∈r,x.At≠g.At:=λg hg e=>by
   have:=h.1 g hg;rw [e,zBc] at this; omega
  intro f hf g hg e;rcases qd.1 hf with e1 | hf1
  ·rcases qd.1 hg with e2 | hg1
   ·rw [e1,e2]
   ·rw [e1] at e; exact absurd e (ne g hg1)
  ·rcases qd.1 hg with e2 | hg1
   ·rw [e2] at e; exact absurd e.symm (ne f hf1)
   ·exact ih h.2 f hf1 g hg1 e
def cL (a b:yC):Int:=zbb (.l (zbv a)) (.l (zbv b))
theorem zbg0:Ord3 cL:=zbam (λa=>.l (zbv a)) λa b h=>zzO _ _ (TT.l.inj h)
structure Canon (a:yB):Prop where
 asc:a.Pairwise λt u=>cL t.Fs u.Fs<0
 fac:∀ t∈a,zbck t.Fs
theorem Canon.tail {t:Term} {a:yB} (h:Canon (t::a)):Canon a:=⟨(qi.1 h.asc).2,λx hx=>h.fac x (by simp [hx])⟩
theorem Canon.uniq {a:yB} (h:Canon a):∀ t∈a,∀ u∈a,t.Fs=u.Fs->t=u:=by
 have hp:=h.asc;clear h;induction a with
 | nil=>intro t ht; cases ht
 | cons x r ih=>
  have hp:=qi.1 hp
  have ne:∀ g∈r,x.Fs≠g.Fs:=λg hg e=>by
   have:=hp.1 g hg;rw [e,zbg0.refl] at this; omega
  intro f hf g hg e;rcases qd.1 hf with e1 | hf1
  ·rcases qd.1 hg with e2 | hg1
   ·rw [e1,e2]
   ·rw [e1] at e; exact absurd e (ne g hg1)
  ·rcases qd.1 hg with e2 | hg1
   ·rw [e2] at e; exact absurd e.symm (ne f hf1)
   ·exact ih hp.2 f hf1 g hg1 e
def leS (a b:yB):Bool:=a.all λt=>b.any λu=>dvF u.Fs t.Fs
theorem zbeE {a b:yB}:leS a b=true↔∀ t∈a,∃ u∈b,dvF u.Fs t.Fs=true:=by
 unfold leS;simp only [List.all_eq_true,List.any_eq_true]
def zbdb (a b s:yB):Prop:=∀ l:yC,(∃ t∈s,t.Fs=l)↔(∃ t∈a,t.Fs=l)\/∃ t∈b,t.Fs=l
theorem zbdb.le {a b s c:yB} (h:zbdb a b s):leS s c=true↔leS a c=true/\leS b c=true:=by
 simp only [zbeE];constructor
 ·intro hs;refine ⟨λt ht=> ?_,λt ht=> ?_⟩
  ·obtain ⟨t',ht',e⟩:=(h t.Fs).2 (.inl ⟨t,ht,rfl⟩);rw [<- e]; exact hs t' ht'
  ·obtain ⟨t',ht',e⟩:=(h t.Fs).2 (.inr ⟨t,ht,rfl⟩);rw [<- e]; exact hs t' ht'
 ·rintro ⟨h1,h2⟩ t ht
  rcases (h t.Fs).1 ⟨t,ht,rfl⟩ with ⟨u,hu,e⟩ | ⟨u,hu,e⟩
  ·rw [<- e]; exact h1 u hu
  ·rw [<- e]; exact h2 u hu
theorem zbgg (a b:yC):cL a b=zbs (zbv a) (zbv b):=by unfold cL; rw [zbb]
theorem PA.canon {a:yB} (h:PA a):Canon a:=⟨h.1.imp λ{x y} hxy=>by rw [zbgg]; exact hxy,λt ht=>(h.2 t ht).2.1⟩
def GP {α:Type} (P:α->Prop):Int⊕α->Prop
 | .inl _=>True
 | .inr a=>P a
theorem zCh {α β:Type} {P:α->Prop} {Q:β->Prop} {x:Int⊕α} {k:α->Int⊕β} (hx:GP P x) (hk:∀ a,P a->GP Q (k a)):GP Q (sbd x k):=by
 cases x with
 | inl e=>exact trivial
 | inr a=>exact hk a hx
theorem zWr {P:yB->Prop} {r:yB×Int} (h:P r.1):GP P (opS r):=by
 unfold opS;split
 ·exact h
 ·exact trivial
theorem zzF {a:yB}:zbW a↔∀ t∈a,∀ f∈t.Fs,zxJ f.At:=by
 rw [zEJ];exact ⟨λh t ht=>zv0.1 (h t ht),λh t ht=>zv0.2 (h t ht)⟩
theorem zxS:zbW []:=zEJ.2 λt ht=>by cases ht
theorem zQm (c:Int):zbW [⟨c,[]⟩]:=zzF.2 λt ht f hf=>by
 rw [qh] at ht; subst ht; cases hf
theorem zOy {x:At} (h:zxJ x):zbW (zcN x):=zzF.2 λt ht f hf=>by
 simp only [zcN,qh] at ht; subst ht;rw [qh] at hf; subst hf; exact h
theorem zOl {a:yB} (h:zbW a):zbW (zlO a).1:=by
 unfold zlO;cases ze0 a with
 | true=>exact h
 | false=>exact zxS
theorem z0H {ok:Bool} {r:yB×Int} (h:ok=true->zbW r.1):zbW (opR ok r).1:=by
 cases ok with
 | true=>exact h rfl
 | false=>exact zxS
theorem zbe7 {a b:yB} (hs:Srs a) (ha:zbW a) (hb:zbW b):zbW (zeC a b):=zzF.2 λt ht f hf=>by
 obtain ⟨x,hx,e⟩:=zIa b a hs ht;rw [e] at hf;rcases hx with hx | hx
 ·exact zzF.1 ha x hx f hf
 ·exact zzF.1 hb x hx f hf
theorem zbdW {a b:yB} (ha:zbW a) (hb:zbW b):zbW (ztd a b):=zzF.2 λt ht f hf=>by
 obtain ⟨x,hx,e⟩:=zIa (zfD a b) [] List.Pairwise.nil ht;rw [e] at hf;rcases hx with hx | hx
 ·cases hx
 ·obtain ⟨u,hu,v,hv,rfl⟩:=z3o hx;obtain ⟨y,hy,e⟩:=zsU hf;rw [e];rcases hy with hy | hy
  ·exact zzF.1 ha u hu y hy
  ·exact zzF.1 hb v hv y hy
theorem zbfQ {a b:yB} (ha:zbW a) (hb:zbW b):zbW (zkF a b).1:=z0H λhv=>by
 rw [qc] at hv;exact zOl (zbe7 (zbcS hv.1).1 ha hb)
theorem zbfO {a b:yB} (ha:zbW a) (hb:zbW b):zbW (zIq a b).1:=z0H λ_=>zOl (zbdW ha hb)
theorem zYy {k:Int} {l:yA} (h:∀ a∈l,zbW a):zxJ ⟨k,⟨0,0⟩,l,0,[],0,⟨0,0,ByteArray.mk #[]⟩⟩:=(zyc _).2 ⟨by simp,zu2.2 h,zs0.2 λw hw=>by cases hw⟩
theorem zbe2 {a b:yB} (ha:zbW a) (hb:zbW b):zbW (zQp a b).1:=z0H λ_=>by
 split
 ·exact ha
 ·split
  ·exact zxS
  ·refine zOl (zOy (zYy λx hx=> ?_))
   simp only [qd,List.not_mem_nil,or_false] at hx;rcases hx with rfl | rfl
   ·exact ha
   ·exact hb
theorem zbfZ {a:yB} (ha:zbW a):zbW (zQM a).1:=z0H λ_=>by
 split
 ·exact ha
 ·split
  ·exact zQm 1
  ·refine zOl (zOy (zYy λx hx=> ?_))
   rw [qh] at hx; subst hx; exact ha
theorem zbfS {a:yB} (ha:zbW a):zbW (zQg a).1:=z0H λ_=>by
 split
 ·exact zQm 1
 ·split
  ·exact zxS
  ·refine zOl (zOy (zYy λx hx=> ?_))
   rw [qh] at hx; subst hx; exact ha
theorem zbeR {f o:Int} {l:yD} {b:Value} (hl:l.length<20) (h:∀ w∈l,zbW w.Ann):zbW (zwR f l o b).1:=by
 unfold zwR;cases (!(zzh f l o b&&l.all λw=>zX w.Ann)) with
 | true=>exact zxS
 | false=>
  cases decide (0<(zdJ l).length) with
  | true=>
   refine zOl (zOy ((zyc _).2 ⟨?_,zu2.2 λa ha=>(by cases ha),zs0.2 λw hw=>h w (zHr hw).1⟩))
   have h1:(zdJ l).length=(l.filter zlB).length:=(zoV _ _).length_eq;have h2:=List.length_filter_le zlB l;show (zdJ l).length<20;omega
  | false=>
   cases (f==0&&zL4 o (zdX 0 b.Int)) with
   | true=>exact zQm 1
   | false=>exact zxS
theorem zbaW {b:yB} (hb:zbW b):∀ (n:Nat) (p:yB),zbW p->GP zbW (zz4 b n p)
 | 0,p,hp=>hp
 | n+1,p,hp=>zCh (zWr (zbfO hp hb)) λq hq=>zbaW hb n q hq
theorem zbfX (n:Int):zbW (zAB n):=by
 unfold zAB;split
 ·exact zxS
 ·exact zQm _
theorem z9o {l:yA} (h:∀ a∈l,zbW a) (i:Nat):zbW (l.getD i default):=by
 by_cases hi:i<l.length
 ·exact h _ (zn hi)
 ·rw [List.getD_eq_getElem?_getD,List.getElem?_eq_none (by omega)]; exact zxS
section
variable {to:RowID->yB} (ht:∀ r,zbW (to r))
include ht
mutual
theorem zbal:∀ x:At,zxJ x->GP zbW (zhP to x)
 | ⟨k,r,a,f,i,o,b⟩=>λh=>by
  obtain ⟨h1,h2,h3⟩:=(zyc _).1 h;rw [zhP];split
  ·exact ht r
  ·refine zCh (zZU a (zu2.1 h2)) λxs hxs=> ?_
   have g0:=z9o hxs 0;have g1:=z9o hxs 1;split
   ·exact zWr (zbe2 g0 g1)
   ·split
    ·exact zWr (zbfZ g0)
    ·split
     ·exact zWr (zbfS g0)
     ·refine zCh (zYc i (zs0.1 h3)) λis his=>zWr (zbeR ?_ his.2)
      rw [his.1]; exact h1
theorem zRQ:∀ l:yC,(∀ f∈l,zxJ f.At)->∀ p,zbW p->GP zbW (zej to l p)
 | [],_,p,hp=>by rw [zej]; exact hp
 | ⟨x,e⟩::r,h,p,hp=>by
  rw [zej];exact zCh (zbal x (h ⟨x,e⟩ (by simp))) λb hb=>zCh (zbaW hb _ p hp) λq hq=>zRQ r (λf hf=>h f (by simp [hf])) q hq
theorem zUs:∀ a:yB,(∀ t∈a,∀ f∈t.Fs,zxJ f.At)->∀ s,zbW s->GP zbW (zdr to a s)
 | [],_,s,hs=>by rw [zdr]; exact hs
 | ⟨c,fs⟩::r,h,s,hs=>by
  rw [zdr];exact zCh (zRQ fs (h ⟨c,fs⟩ (by simp)) _ (zbfX c)) λp hp=>zCh (zWr (zbfQ hs hp)) λq hq=>zUs r (λt ht=>h t (by simp [ht])) q hq
theorem zZU:∀ l:yA,(∀ a∈l,zbW a)->GP (λr:yA=>∀ a∈r,zbW a) (zkC to l)
 | [],_=>by rw [zkC]; exact λa ha=>by cases ha
 | a::r,h=>by
  rw [zkC];refine zCh (zUs a (zzF.1 (h a (by simp))) [] zxS) λb hb=>zCh (zZU r λc hc=>h c (by simp [hc])) λl hl=> ?_
  intro x hx;rcases qd.1 hx with rfl | hx
  ·exact hb
  ·exact hl x hx
theorem zYc:∀ l:yD,(∀ w∈l,zbW w.Ann)->GP (λr:yD=>r.length=l.length/\∀ w∈r,zbW w.Ann) (zhe to l)
 | [],_=>by rw [zhe]; exact ⟨rfl,λa ha=>by cases ha⟩
 | ⟨v,a⟩::r,h=>by
  rw [zhe];refine zCh (zUs a (zzF.1 (h ⟨v,a⟩ (by simp))) [] zxS) λb hb=>zCh (zYc r λc hc=>h c (by simp [hc])) λl hl=> ?_
  refine ⟨by simp [hl.1],λx hx=> ?_⟩
  rcases qd.1 hx with rfl | hx
  ·exact hb
  ·exact hl.2 x hx
end
end
theorem zbfE (r:RowID):zbW (zjm r):=by
 unfold zjm;cases zw1 r with
 | false=>exact zxS
 | true=>exact zOy ((zyc _).2 ⟨by simp,zu2.2 λa ha=>(by cases ha),zs0.2 λa ha=>by cases ha⟩)
section
variable {σ:At->yB}
end
end Go.Proofs.YtoknknbmfmddbaaGreatDoor
/- Relations: the normal form, by the program. -/
set_option maxRecDepth 100000
namespace Go.Proofs.YtoknknbmfmddbaaGreatDoor
open Go Go.Ab
def zhz (x:Row):Bool:= !(x.Ann.length==0)
theorem z3t {α:Type} [Inhabited α] (P:α->Bool):∀ (l:List α) (i:Nat),(∃ j:Nat,ixf P l i=((i+j:Nat):Int)/\j<l.length/\P (l.getD j default)=true/\∀ x∈l.take j,P x=false)\/(ixf P l i= -1/\∀ x∈l,P x=false)
 | [],i=>.inr ⟨rfl,λx h=>by cases h⟩
 | y::l,i=>by
  rw [ixf];cases e:P y with
  | true=>exact .inl ⟨0,rfl,by simp,e,λx h=>by cases h⟩
  | false=>
   rw [cond_false];rcases z3t P l (i+1) with ⟨j,h1,h2,h3,h4⟩ | ⟨h1,h2⟩
   ·refine .inl ⟨j+1,by rw [h1]; congr 1; omega,by simp; omega,h3,λx hx=> ?_⟩
    rw [List.take_succ_cons] at hx;rcases qd.1 hx with rfl | hx
    ·exact e
    ·exact h4 x hx
   ·refine .inr ⟨h1,λx hx=> ?_⟩
    rcases qd.1 hx with rfl | hx
    ·exact e
    ·exact h2 x hx
theorem zba4 (x:Row):(zg9 x).2= !zhz x:=by
 unfold zhz; rw [Bool.not_not];exact zrA _ 0
theorem zTQ:∀ (n i j:Nat) (s:yF),s.length<=1000000->s.length<j+n->j<=s.length->i<=j->
  ∃ (i':Nat) (s':yF),zg5 n i j s=(true,((i':Int),s'))/\s'.length=s.length/\i'<=s.length/\s'.take i'=s.take i++(s.drop j).filter zhz
 | 0,i,j,s,hs,h,h2,h3=>by omega
 | n+1,i,j,s,hs,h,h2,h3=>by
  show ∃ (i':Nat) (s':yF),(zg2 i j s).ev (λx y=>zg5 n x.2.2.1 x.2.2.2.1 y.1) (λr=>(true,r)) (false,default)=_/\_
  unfold zg2;by_cases hj:j<s.length
  ·have hi:i<s.length:=by omega
   simp only [Wy.ev_i,Wy.ev_k,Wy.ev_h,Wy.ev_bn,Wy.ev_d,tT,hj,hi,zba4];rw [zbf hj];cases hx:zhz (s.getD j default) with
   | false=>
    simp only [List.filter_cons,hx,Bool.not_false,Bool.not_true,cond_false,Bool.false_eq_true,if_false];rw [zD (by omega)]
    exact zTQ n i (j+1) s hs (by omega) (by omega) (by omega)
   | true=>
    simp only [List.filter_cons,hx,Bool.not_false,Bool.not_true,cond_true,if_true];rw [zD (by omega),zD (by omega)]
    obtain ⟨i',s',h4,h5,h6,h7⟩:=zTQ n (i+1) (j+1) (s.set i (s.getD j default)) (by simpa using hs) (by simp; omega) (by simp; omega) (by omega)
    refine ⟨i',s',h4,by simpa using h5,by simpa using h6, ?_⟩
    rw [h7,z49 _ hi,z8y _ (by omega)]
    simp
  ·simp only [Wy.ev_i,Wy.ev_k,Wy.ev_h,Wy.ev_bn,Wy.ev_d,tT,hj];exact ⟨i,s,rfl,rfl,by omega,by rw [zce hj]; simp⟩
theorem zbaJ (s:yF) (hs:s.length<=1000000):zdZ s=(true,s.filter zhz):=by
 unfold zdZ zmw
 have hix:zdz s=(true,ixf (λx=> !zhz x) s 0):=by
  have:zdz s=IH (λ(_:Unit) x=>(true,(zg9 x).2)) (s.length+(Int.ofNat s.length).toNat +Int.toNat (0:Int)+(1000:Nat)) () s:=rfl
  exact this.trans (zbaG _ _ _ _ _ (by omega) (λx _=>by rw [zba4]) (by omega))
 rw [Wy.fin_bn,hix,cond_true];rcases z3t (λx=> !zhz x) s 0 with ⟨j,h1,h2,h3,h4⟩ | ⟨h1,h2⟩
 ·rw [h1,Nat.zero_add];have e:((j:Int)== -1)=false:=by simp
  rw [Wy.fin_i,e,cond_false,Wy.fin_bn,zD (by omega)]
  obtain ⟨i',s',h5,h6,h7,h8⟩:=zTQ ((j:Int).toNat +((j+1:Nat):Int).toNat +s.length+(1000:Nat)) j (j+1) s hs (by simp; omega) (by omega) (by omega)
  rw [h5];have h7':i'<=s'.length:=by omega
  have e2:i'+(s'.length - i')<=s'.length:=by omega
  have e3:i'<=(List.take i' s'++List.replicate (s'.length - i') (Row.mk [] [])++List.drop (i'+(s'.length - i')) s').length:=by simp; omega
  simp only [Wy.fin_i,Wy.fin_k,Int.ofNat_eq_natCast,Int.toNat_natCast,zea,zn3,h7',e2,e3,Nat.le_refl,decide_true,Bool.and_self,cond_true,Int.le_refl,Int.toNat_zero,Nat.sub_zero];rw [zbaf _ h7',h8];congr 1;have h3':zhz (s.getD j default)=false:=by simpa using h3
  conv=>rhs; rw [<- List.take_append_drop j s,List.filter_append,zbf h2,List.filter_cons]
  simp only [h3',Bool.false_eq_true,if_false];congr 1;refine (List.filter_eq_self.2 λx hx=> ?_).symm
  have:=h4 x hx
  simpa using this
 ·rw [h1];rw [Wy.fin_i,show ((-1:Int)== -1)=true from rfl,cond_true,Wy.fin_k]
  congr 1;exact (List.filter_eq_self.2 λx hx=>by simpa using h2 x hx).symm
def cR (x y:Row):Int:=zzV x.Values y.Values
def zeD (x y:Row):Option Row:=if (zkF x.Ann y.Ann).2=0 then some ⟨x.Values,(zkF x.Ann y.Ann).1⟩ else none
def zoC (x:Row):Prop:=x.Values.length<=1000000/\okA x.Ann/\zX x.Ann=true
theorem zbb6:MO cR zeD zoC where
 anti:=λx y _ _=>by unfold cR; have:=zB5 x.Values y.Values; omega
 trans:=λx y z _ _ _ h1 h2=>zYg h1 h2
 key:=λx y z hx hy e=>by
  unfold zeD at e;split at e
  ·rename_i h0;rw [qa] at e;subst e;obtain ⟨⟨_,_,v3⟩,e3⟩:=zbfu h0;refine ⟨⟨hx.1,(z2y hx.2.1 hy.2.1).1,by show zX (zkF x.Ann y.Ann).1=true; rw [e3]; exact v3⟩,λw _=>⟨rfl,rfl⟩⟩
  ·cases e
theorem zbeF {x y:Row} (hx:zoC x) (hy:zoC y) (h:¬ (zkF x.Ann y.Ann).2=0):(zkF x.Ann y.Ann).2=6:=by
 unfold zkF opR zlO at *;rw [hx.2.2,hy.2.2] at h ⊢;simp only [Bool.and_self,cond_true] at h ⊢;cases hw:ze0 (zeC x.Ann y.Ann) with
 | true=>rw [hw] at h; exact absurd rfl h
 | false=>rfl
theorem zUn {x:Row} (hx:zoC x) (hs:zbW x.Ann):znm x x.Ann=(true,x):=by
 unfold znm zGN zcr;rw [Wy.fin_bn,z1V hx.2.1 (λ_=>hs) ⟨by simp,λb hb=>by cases hb⟩,cond_true,Wy.fin_bn,decide_eq_true (zlI (by have:=hx.1; omega) (by omega)),cond_true,Wy.fin_k]
 unfold zbcj opR;rw [hx.2.2];show (true,Row.mk x.Values (ofS (zdr (toA []) x.Ann [])).1)=_;rw [show toA []=zjm from rfl,zbf2 hx.2.2]; rfl
theorem z9v (cols:yH) (S:yF) (hS:S.length<=1000) (hV:∀ x∈S,zoC x/\zbW x.Ann):∀ (n i:Nat) (o:yF),S.length<i+n->i<=S.length->o.length<=i->(∀ w∈o,zoC w)->
  zzH n S.length i S cols o=(true,match (S.drop i).foldl (zPG cR zeD) (some o) with | none=>.inl 6 | some M=>.inr (cols,M))
 | 0,i,o,h1,h2,h3,h4=>by omega
 | n+1,i,o,h1,h2,h3,h4=>by
  show (zsI S.length i S cols o).ev (zA zsG (.inl default) n) (λr=>(true,r)) (false,.inl default)=_
  unfold zsI;by_cases hi:i<S.length
  ·obtain ⟨hx,hsm⟩:=hV _ (zn hi);have hcp:=zUn hx hsm;obtain ⟨x,ex⟩:∃ x,x=S.getD i default:=⟨_,rfl⟩;rw [<- ex] at hx hsm hcp;rw [zbf hi,List.foldl_cons, <- ex];have ih:=λo'=>z9v cols S hS hV n (i+1) o' (by omega) (by omega)
   have hr:∀ r:Row,decide ((o.length+[r].length)*(48:Nat)<=zF)=true:=λr=>decide_eq_true (zlI (by simp; omega) (by omega))
   rcases List.eq_nil_or_concat o with rfl | ⟨o',w,rfl⟩
   ·simp only [Wy.ev_i,Wy.ev_k,Wy.ev_h,Wy.ev_bn,Wy.ev_d,tT,hi, <- ex,hcp,hr,zD (show i<4611686018427387904 by omega),List.length_nil]
    exact ih [x] (by simp) λw hw=>by rw [qh.1 hw]; exact hx
   ·rw [List.concat_eq_append] at *;have hw:=h4 w (by simp)
    have hlen:(o'++[w]).length=o'.length+1:=by simp
    have h0:((((o'++[w]).length:Nat):Int)==(0:Int))=false:=by rw [zga,decide_eq_false_iff_not,hlen]; omega
    have w1:IntKind.i64.wrap ((((o'++[w]).length:Nat):Int) - (1:Int))=(o'.length:Int):=by rw [hlen,zfK (by simp at h3; omega) (by simp at h3; omega)]; omega
    have g1:o'.length<(o'++[w]).length:=by omega
    have g2:(o'++[w]).getD o'.length default=w:=z7C o' [] w;have hc:zcn w x=(true,cR w x):=zgN w x hw.1;have hset:∀ v,(o'++[w]).set o'.length v=o'++[v]:=λv=>z6t o' [] w v
    have hm:zPG cR zeD (some (o'++[w])) x=if cR w x=0 then (zeD w x).map λz=>o'++[z] else some (o'++[w]++[x]):=by
     unfold zPG;simp only [List.getLast?_append,List.getLast?_singleton,Option.some_or,List.dropLast_concat]
    rw [hm];simp only [Wy.ev_i,Wy.ev_k,Wy.ev_h,Wy.ev_bn,Wy.ev_d,tT,hi,h0,w1,g1,g2, <- ex,hc,hcp,hr,zsY,zD (show i<4611686018427387904 by omega),(zbaN hw.2.1 hx.2.1).1,hset]
    by_cases e:cR w x=0
    ·rw [if_pos e,decide_eq_true e,Bool.not_true,cond_false];by_cases e2:(zkF w.Ann x.Ann).2=0
     ·have ea:zeD w x=some ⟨w.Values,(zkF w.Ann x.Ann).1⟩:=by unfold zeD; rw [if_pos e2]
      rw [ea,decide_eq_true e2,Bool.not_true,cond_false,Option.map_some]
      exact ih (o'++[⟨w.Values,(zkF w.Ann x.Ann).1⟩]) (by simp at h3 ⊢; omega) λv hv=>by
       rcases List.mem_append.1 hv with hv | hv
       ·exact h4 v (by simp [hv])
       ·rw [qh.1 hv]; exact (zbb6.key w x _ hw hx ea).1
     ·have ea:zeD w x=none:=by unfold zeD; rw [if_neg e2]
      rw [ea,decide_eq_false e2,Bool.not_false,cond_true,Option.map_none,zTE,zbeF hw hx e2]
    ·rw [if_neg e,decide_eq_false e,Bool.not_false,cond_true]
     exact ih (o'++[w]++[x]) (by simp at h3 ⊢; omega) λv hv=>by
      rcases List.mem_append.1 hv with hv | hv
      ·exact h4 v hv
      ·rw [qh.1 hv]; exact hx
  ·simp only [Wy.ev_i,Wy.ev_k,Wy.ev_h,Wy.ev_bn,Wy.ev_d,tT,hi,zce hi,List.foldl_nil]
def zD8 (cols:yH):yF->Int
 | []=>0
 | x::r=>bif !zBO cols x.Values then 7 else bif !zX x.Ann then 1 else zD8 cols r
def zwU (r:Relation):Relation×Int:=
 if zQ3 r.Columns=false then (⟨[],[]⟩,1) else
 if zD8 r.Columns r.Rows=0 then
  match (r.Rows.filter zhz).foldl (λo x=>o.bind λM=>zgQ cR zeD M x) (some []) with
  | none=>(⟨[],[]⟩,6)
  | some M=>(⟨r.Columns,M⟩,0)
 else (⟨[],[]⟩,zD8 r.Columns r.Rows)
structure okRel (r:Relation):Prop where
 cols:r.Columns.length<=1000000
 rows:r.Rows.length<20
 row:∀ x∈r.Rows,x.Values.length<=1000000/\okA x.Ann/\(zX x.Ann=true->zbW x.Ann)
theorem z6i (r:Relation) (h:okRel r):∀ (n i:Nat),r.Rows.length<i+n->i<=r.Rows.length->zAX n r.Rows r.Rows.length i r=(true,if zD8 r.Columns (r.Rows.drop i)=0 then .inr r else .inl (zD8 r.Columns (r.Rows.drop i)))
 | 0,i,h1,h2=>by omega
 | n+1,i,h1,h2=>by
  show (zts r.Rows r.Rows.length i r).ev (zA zto (.inl default) n) (λr=>(true,r)) (false,.inl default)=_
  unfold zts;have hl:=h.rows;by_cases hi:i<r.Rows.length
  ·obtain ⟨k1,k2,k3⟩:=h.row _ (zn hi);simp only [Wy.ev_i,Wy.ev_k,Wy.ev_h,Wy.ev_bn,Wy.ev_d,tT,hi,zbdI _ _ h.cols,k2.valid,zD (show i<4611686018427387904 by omega)]
   rw [zbf hi,zD8];cases zBO r.Columns (r.Rows.getD i default).Values with
   | false=>rfl
   | true=>
    cases zX (r.Rows.getD i default).Ann with
    | false=>rfl
    | true=>exact z6i r h n (i+1) (by omega) (by omega)
  ·simp only [Wy.ev_i,Wy.ev_k,Wy.ev_h,Wy.ev_bn,Wy.ev_d,tT,hi,zce hi];rfl
theorem zHH {cols:yH}:∀ {l:yF},zD8 cols l=0->∀ x∈l,zBO cols x.Values=true/\zX x.Ann=true
 | [],_,x,hx=>by cases hx
 | y::l,h,x,hx=>by
  rw [zD8] at h;cases h1:zBO cols y.Values with
  | false=>rw [h1] at h; cases h
  | true=>
   cases h2:zX y.Ann with
   | false=>rw [h1,h2] at h; cases h
   | true=>
    rw [h1,h2] at h;rcases qd.1 hx with rfl | hx
    ·exact ⟨h1,h2⟩
    ·exact zHH h x hx
theorem zbfN:OW λx:Row=>x.Values.length<=1000000 where
 ends := λx y hx _ => ⟨_, zgN x y hx⟩
 asym:=λx y hx hy h1 h2=>by
  unfold ltW at h1 h2;rw [zgN x y hx] at h1;rw [zgN y x hy] at h2;have:=zB5 x.Values y.Values;simp only at h1 h2; omega
 ntr:=λx y z hx hy hz h1 h2 h3=>by
  unfold ltW at h1 h2 h3;rw [zgN x _ hx] at h1 h3;rw [zgN y z hy] at h2;simp only at h1 h2 h3;have a1:=zB5 x.Values y.Values;have a2:=zB5 y.Values z.Values;have a3:=zB5 x.Values z.Values;have:=zYg (x:=z.Values) (y:=y.Values) (z:=x.Values) (by omega) (by omega)
  omega
theorem z3m:∀ (x:Row) (l:yF),x.Values.length<=1000000->zAs x l=zxM cR x l
 | x,[],_=>rfl
 | x,y::r,hx=>by
  rw [zAs,zxM,zgN x y hx];show (if cR x y<0 then _ else _)=_
  split
  ·rfl
  ·rw [z3m x r hx]
theorem z7W:∀ (l s:yF),(∀ x∈l,x.Values.length<=1000000)->l.foldl (λs x=>zAs x s) s=l.foldl (λs x=>zxM cR x s) s
 | [],s,_=>rfl
 | x::l,s,h=>by
  rw [List.foldl_cons,List.foldl_cons,z3m x s (h x (by simp))]
  exact z7W l _ λy hy=>h y (by simp [hy])
theorem zZl {ρ:Type} {c:ρ->ρ->Int} {add:ρ->ρ->Option ρ}:∀ {M N:List ρ} {x:ρ},zgQ c add M x=some N->N.length<=M.length+1
 | [],N,x,h=>by rw [zgQ,qa] at h; subst h; simp
 | y::M,N,x,h=>by
  rw [zgQ] at h;split at h
  ·cases e:zgQ c add M x with
   | none=>rw [e] at h; cases h
   | some K=>
    rw [e,Option.map_some,qa] at h;have:=zZl e;subst h; simp; omega
  ·split at h
   ·cases e:add y x with
    | none=>rw [e] at h; cases h
    | some z=>rw [e,Option.map_some,qa] at h; subst h; simp
   ·rw [qa] at h; subst h; simp
theorem zUF {ρ:Type} {c:ρ->ρ->Int} {add:ρ->ρ->Option ρ}:∀ l:List ρ,l.foldl (λo x=>o.bind λM=>zgQ c add M x) none=none
 | []=>rfl
 | _::l=>zUF l
theorem zRa {ρ:Type} {c:ρ->ρ->Int} {add:ρ->ρ->Option ρ}:∀ {l M N:List ρ},l.foldl (λo x=>o.bind λM=>zgQ c add M x) (some M)=some N->N.length<=M.length+l.length
 | [],M,N,h=>by rw [List.foldl_nil,qa] at h; subst h; simp
 | x::l,M,N,h=>by
  rw [List.foldl_cons,Option.bind_some] at h;cases e:zgQ c add M x with
  | none=>rw [e,zUF] at h; cases h
  | some K=>
   rw [e] at h;have h1:=zZl e;have h2:=zRa h;simp only [qf]; omega
theorem z6X (r:Relation) (h:okRel r):zmk r=(true,zwU r):=by
 unfold zmk zBV zwU;have hl:=h.rows;have hc:=z6i r h (r.Rows.length+(Int.ofNat r.Rows.length).toNat +Int.toNat (0:Int)+r.Columns.length+r.Rows.length+(1000:Nat)) 0 (by omega) (by omega)
 rw [show ((0:Nat):Int)=(0:Int) from rfl,List.drop_zero] at hc
 rw [show (r.Rows.length:Int)=Int.ofNat r.Rows.length from rfl] at hc
 rw [Wy.fin_bn,z0V _ h.cols,cond_true,Wy.fin_i];cases hcol:zQ3 r.Columns with
 | false=>rfl
 | true=>
  rw [Bool.not_true,cond_false,Wy.fin_bn,hc,cond_true,if_neg (show ¬ (true=false) by decide)]
  by_cases hk:zD8 r.Columns r.Rows=0
  ·rw [if_pos hk,if_pos hk];have hv:=zHH hk;have hfl:(r.Rows.filter zhz).length<20:=Nat.lt_of_le_of_lt (List.length_filter_le _ _) hl
   have hfm:∀ x∈r.Rows.filter zhz,zoC x/\zbW x.Ann:=λx hx=>by
    have hm:=(List.mem_filter.1 hx).1;obtain ⟨k1,k2,k3⟩:=h.row x hm;exact ⟨⟨k1,k2,(hv x hm).2⟩,k3 (hv x hm).2⟩
   have hclR:zeT r.Rows=(true,r.Rows):=by
    unfold zeT;rw [decide_eq_true (zlI (by omega) (by omega))]
   have hclC:zbX r.Columns=(true,r.Columns):=by
    unfold zbX;rw [decide_eq_true (zlI (by have:=h.cols; omega) (by omega))]
   have hsort:=zbel zbfN (l:=r.Rows.filter zhz) (λx hx=>(hfm x hx).1.1) hfl
   have hperm:(zHP (r.Rows.filter zhz)).Perm (r.Rows.filter zhz):=(zYT zbfN (r.Rows.filter zhz) [] (λx hx=>(hfm x hx).1.1) .nil).2.perm
   have hloop:=z9v r.Columns (zHP (r.Rows.filter zhz)) (by rw [hperm.length_eq]; omega) (λx hx=>hfm x (hperm.mem_iff.1 hx)) ((Int.ofNat (zHP (r.Rows.filter zhz)).length).toNat +Int.toNat (0:Int)+(zHP (r.Rows.filter zhz)).length+r.Columns.length+(0:Nat)+(1000:Nat)) 0 [] (by omega) (by omega) (by simp) (λw hw=>by cases hw)
   rw [show ((0:Nat):Int)=(0:Int) from rfl,List.drop_zero,zbem] at hloop
   have hmm:mrg cR zeD (zHP (r.Rows.filter zhz))=(r.Rows.filter zhz).foldl (λo x=>o.bind λM=>zgQ cR zeD M x) (some []):=by
    unfold zHP;rw [z7W _ _ λx hx=>(hfm x hx).1.1]
    exact z7A zbb6 (r.Rows.filter zhz) [] (λx hx=>(hfm x hx).1) .nil
   rw [hmm] at hloop;simp only [Wy.fin_i,Wy.fin_k,Wy.fin_bn,isL,getL,getR,cond_true,cond_false,hclR,zbaJ _ (show r.Rows.length<=1000000 by omega),hsort,hclC]
   rw [show (((zHP (r.Rows.filter zhz)).length:Nat):Int)=Int.ofNat (zHP (r.Rows.filter zhz)).length from rfl] at hloop
   rw [hloop];cases e:(r.Rows.filter zhz).foldl (λo x=>o.bind λM=>zgQ cR zeD M x) (some []) with
   | none=>rfl
   | some M=>
    have:=zRa e
    have hM:decide (Int.ofNat M.length>(1024:Int))=false:=by
     rw [show decide (Int.ofNat M.length>(1024:Int))=decide (M.length>1024) from zjD _ 1024]
     exact decide_eq_false (by simp at this; omega)
    simp only [isL,getR,cond_true,cond_false];show (bif decide (Int.ofNat M.length>(1024:Int)) then _ else _)=_
    rw [hM]; rfl
  ·rw [if_neg hk,if_neg hk]; rfl
end Go.Proofs.YtoknknbmfmddbaaGreatDoor
/- Relations: the normal form, by the reference. -/
set_option maxRecDepth 100000
namespace Go.Proofs.YtoknknbmfmddbaaGreatDoor
open Go Go.Ab
theorem z3E {ρ:Type} (c:ρ->ρ->Int) (add:ρ->ρ->Option ρ) (x:ρ):∀ l:List ρ,zgQ c add l x=match l.dropWhile (λy=>decide (c y x<0)) with
  | []=>some (l.takeWhile (λy=>decide (c y x<0))++[x])
  | y::r=>if c y x=0 then (add y x).map λz=>l.takeWhile (λy=>decide (c y x<0))++z::r else some (l.takeWhile (λy=>decide (c y x<0))++x::y::r)
 | []=>rfl
 | y::l=>by
  rw [zgQ,List.dropWhile_cons,List.takeWhile_cons];by_cases h:c y x<0
  ·rw [if_pos h,z3E c add x l,decide_eq_true h,if_pos rfl,if_pos rfl];cases l.dropWhile (λy=>decide (c y x<0)) with
   | nil=>rfl
   | cons z r=>
    simp only;by_cases e:c z x=0
    ·rw [if_pos e,if_pos e]; cases add z x <;>rfl
    ·rw [if_neg e,if_neg e]; rfl
  ·rw [if_neg h,decide_eq_false h];simp only [Bool.false_eq_true,if_false,List.nil_append]
theorem zT0 {ρ σ:Type} (p:ρ->Bool) (f:σ->ρ->σ):∀ (l:List ρ) (s:σ),(l.filter p).foldl f s=l.foldl (λs x=>if p x=true then f s x else s) s
 | [],s=>rfl
 | x::l,s=>by
  rw [List.filter_cons,List.foldl_cons];cases h:p x with
  | true=>rw [if_pos rfl,if_pos rfl,List.foldl_cons,zT0 p f l]
  | false=>rw [if_neg (by simp),if_neg (by simp),zT0 p f l]
theorem zbbN {l:yF} {x:Row} (hl:l.length<=1000) (hV:∀ w∈l,zoC w) (hx:zoC x):∃ s,zE5 l x=(true,match zgQ cR zeD l x with | some N=>(N,true) | none=>(s,false)):=by
 unfold zE5 zX5
 have hscan:=zHt (W:=zIP) (z:=default) l (λy=>decide (cR y x<0)) (λi=>(l,(),(i:Int),())) (λ_=>(x,())) (λk=>(l,(k:Int),x))
  (λi hi H K D=>by
   show (zxs l i x).ev H K D=_;unfold zxs;simp only [Wy.ev_i,Wy.ev_k,Wy.ev_h,Wy.ev_bn,Wy.ev_d,tT,hi,zBD _ _ (hV _ (zn hi)).1,zD (show i<4611686018427387904 by omega)]
   rfl)
  (λH K D=>by
   show (zxs l l.length x).ev H K D=_;unfold zxs;simp only [Wy.ev_i,Wy.ev_k,tT,Nat.lt_irrefl]) (l.length+Int.toNat (0:Int)+x.Values.length+x.Ann.length+(1:Nat)) (by omega)
 have hscan':zTw (l.length+Int.toNat (0:Int)+x.Values.length+x.Ann.length+(1:Nat)) l (0:Int) x=_:=hscan;have htake:=zNI (λy=>decide (cR y x<0)) l
 have hdrop:=zO0 (λy=>decide (cR y x<0)) l
 have hle:=zbdi (λy=>decide (cR y x<0)) l
 obtain ⟨k,hk0⟩:∃ k,k=(l.takeWhile λy=>decide (cR y x<0)).length:=⟨_,rfl⟩
 rw [<- hk0] at hscan' htake hdrop hle;rw [Wy.fin_bn,hscan',cond_true,z3E, <- htake, <- hdrop];clear hscan hscan' hk0;have b1:decide ((0+(l.take k).length)*(48:Nat)<=zF)=true:=decide_eq_true (zlI (by rw [List.length_take]; omega) (by omega))
 have b2:∀ z:Row,decide ((([]++l.take k).length+[z].length)*(48:Nat)<=zF)=true:=λz=>decide_eq_true (zlI (by simp; omega) (by omega))
 have b3:∀ z:Row,decide ((([]++l.take k++[z]).length+(l.drop (k+1)).length)*(48:Nat)<=zF)=true:=λz=>decide_eq_true (zlI (by simp; omega) (by omega))
 have b4:∀ z:Row,decide ((([]++l.take k++[z]).length+(l.drop k).length)*(48:Nat)<=zF)=true:=λz=>decide_eq_true (zlI (by simp; omega) (by omega))
 have hkl:decide ((k:Int)<=Int.ofNat l.length)=true:=by rw [show decide ((k:Int)<=Int.ofNat l.length)=decide (k<=l.length) from zn3 _ _]; exact decide_eq_true hle
 by_cases hk:k<l.length
 ·have hy:=hV _ (zn hk);have hk':decide ((k:Int)<Int.ofNat l.length)=true:=by simp [hk]
  have hk1:decide (((k+1:Nat):Int)<=Int.ofNat l.length)=true:=by rw [show decide (((k+1:Nat):Int)<=Int.ofNat l.length)=decide (k+1<=l.length) from zn3 _ _]; exact decide_eq_true (by omega)
  rw [zbf hk];simp only [Wy.fin_i,Wy.fin_k,Wy.fin_bn,Int.le_refl,decide_true,zea,hkl,hk',hk1,Bool.and_self,Bool.true_and,cond_true,Int.toNat_natCast,zNL,zwb,b1,b2,b3,b4,zRJ _ x.Values hy.1,zbc0 hy.2.1 hx.2.1,zD (show k<4611686018427387904 by omega)]
  by_cases e:(l.getD k default).Values=x.Values
  ·rw [decide_eq_true e,cond_true,if_pos (show cR (l.getD k default) x=0 from (zPW _ _).2 e)]
   by_cases e2:(zkF (l.getD k default).Ann x.Ann).2=0
   ·have ea:zeD (l.getD k default) x=some ⟨(l.getD k default).Values,(zkF (l.getD k default).Ann x.Ann).1⟩:=by unfold zeD; rw [if_pos e2]
    rw [ea,e,e2];exact ⟨[],by simp⟩
   ·have ea:zeD (l.getD k default) x=none:=by unfold zeD; rw [if_neg e2]
    rw [ea];have:((zkF (l.getD k default).Ann x.Ann).2==(0:Int))=false:=by rw [zga]; exact decide_eq_false e2
    rw [this];exact ⟨_,rfl⟩
  ·rw [decide_eq_false e,cond_false,if_neg (show ¬ cR (l.getD k default) x=0 from λh=>e ((zPW _ _).1 h)), <- zbf hk]
   simp only [b4,cond_true];exact ⟨[],by simp⟩
 ·have:k=l.length:=by omega
  subst this;have hk':decide ((l.length:Int)<Int.ofNat l.length)=false:=by simp
  simp only [Wy.fin_i,Wy.fin_k,Wy.fin_bn,Int.le_refl,decide_true,zea,hkl,hk',Bool.and_self,Bool.true_and,cond_true,cond_false,Int.toNat_natCast,zNL,zwb,b1,b2,b4];rw [List.drop_length];exact ⟨[],by simp⟩
theorem z8L {M N:yF} {x:Row} (k:∀ w∈M,zoC w) (hx:zoC x) (h:zgQ cR zeD M x=some N):∀ w∈N,zoC w:=by
 induction M generalizing N with
 | nil=>
  rw [zgQ,qa] at h;subst h;intro w hw; rw [qh.1 hw]; exact hx
 | cons y M ih=>
  have k':∀ w∈M,zoC w:=λw hw=>k w (by simp [hw])
  intro w hw;rw [zgQ] at h;split at h
  ·cases e:zgQ cR zeD M x with
   | none=>rw [e] at h; cases h
   | some K=>
    rw [e,Option.map_some,qa] at h;subst h;rcases qd.1 hw with rfl | hw
    ·exact k w (by simp)
    ·exact ih k' e w hw
  ·split at h
   ·cases e:zeD y x with
    | none=>rw [e] at h; cases h
    | some z=>
     rw [e,Option.map_some,qa] at h;subst h;rcases qd.1 hw with rfl | hw
     ·exact (zbb6.key y x _ (k y (by simp)) hx e).1
     ·exact k' w hw
   ·rw [qa] at h;subst h;rcases qd.1 hw with rfl | hw
    ·exact hx
    ·exact k w hw
theorem z4o (r:Relation) (h:okRel r):∀ (n i:Nat),r.Rows.length<i+n->i<=r.Rows.length->zFI n i r=(true,if zD8 r.Columns (r.Rows.drop i)=0 then .inr r else .inl (zD8 r.Columns (r.Rows.drop i)))
 | 0,i,h1,h2=>by omega
 | n+1,i,h1,h2=>by
  show (zxO i r).ev (zA zxk (.inl default) n) (λr=>(true,r)) (false,.inl default)=_
  unfold zxO;have hl:=h.rows;by_cases hi:i<r.Rows.length
  ·obtain ⟨k1,k2,k3⟩:=h.row _ (zn hi);simp only [Wy.ev_i,Wy.ev_k,Wy.ev_h,Wy.ev_bn,Wy.ev_d,tT,hi,z5x _ _ h.cols,k2.rvalid,zD (show i<4611686018427387904 by omega)]
   rw [zbf hi,zD8];cases zBO r.Columns (r.Rows.getD i default).Values with
   | false=>rfl
   | true=>
    cases zX (r.Rows.getD i default).Ann with
    | false=>rfl
    | true=>exact z4o r h n (i+1) (by omega) (by omega)
  ·simp only [Wy.ev_i,Wy.ev_k,Wy.ev_h,Wy.ev_bn,Wy.ev_d,tT,hi,zce hi];rfl
theorem z3R:∀ l:yF,l.foldl (λo x=>if zhz x=true then o.bind (λM=>zgQ cR zeD M x) else o) none=none
 | []=>rfl
 | x::l=>by
  rw [List.foldl_cons];have:(if zhz x=true then (none:Option (yF)).bind (λM=>zgQ cR zeD M x) else none)=none:=by split <;>rfl
  rw [this]; exact z3R l
theorem z4b (r:Relation) (hl:r.Rows.length<20) (hV:∀ x∈r.Rows,zoC x):∀ (n i:Nat) (o:yF),r.Rows.length<i+n->i<=r.Rows.length->o.length<=i->(∀ w∈o,zoC w)->
  zDm n i r o=(true,match (r.Rows.drop i).foldl (λo x=>if zhz x=true then o.bind (λM=>zgQ cR zeD M x) else o) (some o) with | none=>.inl 6 | some M=>.inr (r,M))
 | 0,i,o,h1,h2,_,_=>by omega
 | n+1,i,o,h1,h2,h3,h4=>by
  show (zwL i r o).ev (zA zwu (.inl default) n) (λr=>(true,r)) (false,.inl default)=_
  unfold zwL;by_cases hi:i<r.Rows.length
  ·have hx:=hV _ (zn hi);have ih:=λo'=>z4b r hl hV n (i+1) o' (by omega) (by omega)
   have e0:(Int.ofNat (r.Rows.getD i default).Ann.length==(0:Int))= !zhz (r.Rows.getD i default):=by
    unfold zhz; rw [Bool.not_not]; exact zrA _ 0
   obtain ⟨s,hs⟩:=zbbN (l:=o) (by omega) h4 hx
   simp only [Wy.ev_i,Wy.ev_k,Wy.ev_h,Wy.ev_bn,Wy.ev_d,tT,hi];rw [show (((r.Rows.getD i default).Ann.length:Int)==(0:Int))=(Int.ofNat (r.Rows.getD i default).Ann.length==(0:Int)) from rfl,e0,hs,zbf hi,List.foldl_cons,zD (by omega)]
   cases hr:zhz (r.Rows.getD i default) with
   | false=>
    rw [if_neg (by simp)]
    exact ih o (by omega) h4
   | true=>
    rw [if_pos rfl,Option.bind_some];cases e:zgQ cR zeD o (r.Rows.getD i default) with
    | none=>rw [z3R]; rfl
    | some N=>exact ih N (by have:=zZl e; omega) (z8L h4 hx e)
  ·simp only [Wy.ev_i,Wy.ev_k,Wy.ev_h,Wy.ev_bn,Wy.ev_d,tT,hi,zce hi];rfl
theorem z5d (r:Relation) (h:okRel r):zrG r=(true,zwU r):=by
 unfold zrG zGT zwU;have hl:=h.rows;have hc:=z4o r h (Int.toNat (0:Int)+r.Columns.length+r.Rows.length+(1:Nat)) 0 (by omega) (by omega)
 rw [show ((0:Nat):Int)=(0:Int) from rfl,List.drop_zero] at hc
 rw [Wy.fin_bn,zYq _ h.cols,cond_true,Wy.fin_i];cases hcol:zQ3 r.Columns with
 | false=>rfl
 | true=>
  rw [Bool.not_true,cond_false,Wy.fin_bn,hc,cond_true,if_neg (show ¬ (true=false) by decide)]
  by_cases hk:zD8 r.Columns r.Rows=0
  ·rw [if_pos hk,if_pos hk];have hv:=zHH hk;have hloop:=z4b r hl (λx hx=>⟨(h.row x hx).1,(h.row x hx).2.1,(hv x hx).2⟩) (Int.toNat (0:Int)+r.Columns.length+r.Rows.length+(0:Nat)+(1:Nat)) 0 [] (by omega) (by omega) (by simp) (λw hw=>by cases hw)
   rw [show ((0:Nat):Int)=(0:Int) from rfl,List.drop_zero, <- zT0] at hloop
   simp only [Wy.fin_i,Wy.fin_k,Wy.fin_bn,isL,getL,getR,cond_true,cond_false,hloop];cases e:(r.Rows.filter zhz).foldl (λo x=>o.bind λM=>zgQ cR zeD M x) (some []) with
   | none=>rfl
   | some M=>
    have h1:=zRa e;have h2:(r.Rows.filter zhz).length<=r.Rows.length:=List.length_filter_le _ _
    have hM:decide (Int.ofNat M.length>(1024:Int))=false:=by
     rw [show decide (Int.ofNat M.length>(1024:Int))=decide (M.length>1024) from zjD _ 1024]
     exact decide_eq_false (by simp at h1; omega)
    simp only [isL,getR,cond_true,cond_false];show (bif decide (Int.ofNat M.length>(1024:Int)) then _ else _)=_
    rw [hM]; rfl
  ·rw [if_neg hk,if_neg hk]; rfl
end Go.Proofs.YtoknknbmfmddbaaGreatDoor
end
