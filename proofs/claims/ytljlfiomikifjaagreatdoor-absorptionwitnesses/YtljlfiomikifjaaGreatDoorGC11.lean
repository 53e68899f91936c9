/- Texts of this claim, joined (the program, its functions in plain words, and what they compute). -/
import Derived.Test.YtljlfiomikifjaaGreatDoorGC10
set_option autoImplicit false
set_option linter.unusedVariables false
set_option linter.unusedSectionVars false
set_option linter.unusedSimpArgs false
set_option maxRecDepth 1000000
set_option maxHeartbeats 0
noncomputable section
namespace Go.Proofs.YtljlfiomikifjaaGreatDoor
open Go Go.Ab
end Go.Proofs.YtljlfiomikifjaaGreatDoor
namespace Go.Proofs.YtljlfiomikifjaaGreatDoor
open Go Go.Ab
end Go.Proofs.YtljlfiomikifjaaGreatDoor
/- Substitution: both sides compute the same. -/
namespace Go.Proofs.YtljlfiomikifjaaGreatDoor
open Go Go.Ab
def toA:yG->RowID->yC
 | [],r=>zbia r
 | b::l,r=>if b.Row=r then b.To else toA l r
section
variable (g:At->yG->Bool×(yC×Int)) (to:yG)
end
section
variable (g:yC->yG->Bool×(yC×Int)) (to:yG)
structure XG (x:At):Prop where
 va:zxK x=true
 lens:x.Ag.length<=1000000/\x.Items.length<20
 ga:∀ a∈x.Ag,g a to=(true,ofS (zsn (toA to) a []))/\GS (zsn (toA to) a [])
 gi:∀ w∈x.Items,g w.Ann to=(true,ofS (zsn (toA to) w.Ann []))/\GS (zsn (toA to) w.Ann [])
 sa:GL x.Ag.length (zA6 (toA to) x.Ag)
 si:GI x.Items (zxA (toA to) x.Items)
 wf:zjX x
end
section
variable (g:At->yG->Bool×(yC×Int)) (l:yG)
end
section
variable (g:yC->yG->Bool×(yC×Int)) (l:yG)
end
theorem zGf:∀ {l:yD} {f:Fc},f∈l->zfC f.At<=zW l
 | [],_,h=>by cases h
 | x::r,a,h=>by
  rw [zne];rcases qd.1 h with rfl | h
  ·omega
  ·have:=zGf h; omega
mutual
def zBj:At->Prop
 | ⟨_,_,a,_,i,_,_⟩=>i.length<20/\zQ6 a/\zKs i
def zCq:yD->Prop
 | []=>True
 | ⟨x,_⟩::r=>zBj x/\zCq r
def zco:yC->Prop
 | []=>True
 | ⟨_,fs⟩::r=>zCq fs/\zco r
def zQ6:yA->Prop
 | []=>True
 | a::r=>zco a/\zQ6 r
def zKs:yE->Prop
 | []=>True
 | ⟨_,a⟩::r=>zco a/\zKs r
end
theorem zRF (x:At):zBj x↔x.Items.length<20/\zQ6 x.Ag/\zKs x.Items:=by cases x; rw [zBj]
theorem zH1:∀ {l:yD},zCq l↔∀ f∈l,zBj f.At
 | []=>by rw [zCq]; simp
 | ⟨x,e⟩::r=>by rw [zCq,zH1 (l:=r)]; simp
theorem zYc:∀ {l:yC},zco l↔∀ t∈l,zCq t.Fs
 | []=>by rw [zco]; simp
 | ⟨x,e⟩::r=>by rw [zco,zYc (l:=r)]; simp
theorem zJy:∀ {l:yA},zQ6 l↔∀ a∈l,zco a
 | []=>by rw [zQ6]; simp
 | a::r=>by rw [zQ6,zJy (l:=r)]; simp
theorem zGk:∀ {l:yE},zKs l↔∀ w∈l,zco w.Ann
 | []=>by rw [zKs]; simp
 | ⟨x,e⟩::r=>by rw [zKs,zGk (l:=r)]; simp
def zbic (a b:yC):yC:=if b=[] then a else if a=[]\/a=b then [] else zlo (zbhp a b)
def zbh7 (a:yC):yC:=if a=[]\/isU a=true then a else if isC a=true then [⟨1,[]⟩] else zlo (zbgz a)
def zbij (a:yC):yC:=if a=[] then [⟨1,[]⟩] else if zB6 a=true then [] else zlo (zbg6 a)
def zbik (f:Int) (l:yE) (o:Int) (b:Value):yC:=
 if 0<(zmz l).length then zlo (z6t f (zmz l) o b) else if (f==0&&zbcS o (zdJ 0 b.Int))=true then [⟨1,[]⟩] else []
def IdP (a:yC):Prop:=a=[]\/a=[⟨1,[]⟩]\/∃ x:At,(x.Kind=3\/x.Kind=4)/\a=zlo x
def zbhj (b:yC):Nat->yC
 | 0=>[⟨1,[]⟩]
 | n+1=>zJW b (zbhj b n)
section
variable (σ:At->yC)
def SG (x:At):Prop:=PA (σ x)/\(x.Kind=3\/x.Kind=4->IdP (σ x))
variable {σ}
def EA (σ:At->yC) (a:yC):Prop:=PA a/\∀ t∈a,∀ f∈t.Fs,SG σ f.At
theorem EA.p {a:yC} (h:EA σ a):∀ t∈a,cOK t/\∀ f∈t.Fs,SG σ f.At:=λt ht=>⟨h.1.c t ht,h.2 t ht⟩
theorem EA.sum {a b:yC} (ha:EA σ a) (hb:EA σ b):EA σ (zFc a b):=⟨zbgH ha.1 hb.1,λt ht f hf=>by
 obtain ⟨x,hx,e⟩:=zFX b a ha.1.1 ht;rw [e] at hf;rcases hx with hx | hx
 ·exact ha.2 x hx f hf
 ·exact hb.2 x hx f hf⟩
theorem EA.prod {a b:yC} (ha:EA σ a) (hb:EA σ b):EA σ (zJW a b):=⟨zbfJ ha.1 hb.1,λt ht f hf=>by
 obtain ⟨x,hx,e⟩:=zFX (zw1 a b) [] List.Pairwise.nil ht;rw [e] at hf;rcases hx with hx | hx
 ·cases hx
 ·obtain ⟨u,hu,v,hv,rfl⟩:=zHx hx;obtain ⟨y,hy,e⟩:=ztr hf;rw [e];rcases hy with hy | hy
  ·exact ha.2 u hu y hy
  ·exact hb.2 v hv y hy⟩
end
mutual
def zbhC (to:RowID->yC):At->yC
 | ⟨k,r,a,f,i,o,b⟩=>if k=0 then to r else if k=1 then zbic ((zXU to a).getD 0 default) ((zXU to a).getD 1 default) else if k=2 then zbh7 ((zXU to a).getD 0 default)
  else if k=3 then zbij ((zXU to a).getD 0 default) else zbik f (zbbt to i) o b
def zbdv (to:RowID->yC):yD->yC
 | []=>[⟨1,[]⟩]
 | ⟨x,e⟩::r=>zJW (zbhj (zbhC to x) e.toNat) (zbdv to r)
def zbcN (to:RowID->yC):yC->yC->yC
 | [],s=>s
 | ⟨c,fs⟩::r,s=>zbcN to r (zFc s (zJW [⟨c,[]⟩] (zbdv to fs)))
def zXU (to:RowID->yC):yA->yA
 | []=>[]
 | a::r=>zbcN to a []::zXU to r
def zbbt (to:RowID->yC):yE->yE
 | []=>[]
 | ⟨v,a⟩::r=>⟨v,zbcN to a []⟩::zbbt to r
end
section
variable (to:RowID->yC)
variable {to} (hto:∀ r,PA (to r))
include hto
end
theorem zbdd {a:yC}:zmq a=true↔a.length<=512/\zbB a<=8/\zX a<=4096/\∀ t∈a,t.Fs.length<=64/\∀ f∈t.Fs,f.Exp<=64/\f.At.Items.length<=1024:=by
 refine ⟨zJY,λ⟨h1,h2,h3,h4⟩=> ?_⟩
 unfold zmq;simp only [qc,qe];refine ⟨⟨⟨h1,h2⟩,h3⟩,List.all_eq_true.2 λt ht=> ?_⟩
 obtain ⟨h5,h6⟩:=h4 t ht;unfold zBJ;rw [Bool.not_eq_true',Bool.or_eq_false_iff];refine ⟨by simp; omega, ?_⟩
 rw [List.any_eq_false];intro f hf;obtain ⟨h7,h8⟩:=h6 f hf;simp;exact ⟨h7,h8⟩
theorem z0H:∀ a b:yD,zb2 (a++b)=zb2 a+zb2 b
 | [],b=>by rw [zvd]; simp
 | t::r,b=>by rw [List.cons_append,zeL,zeL,z0H r b]; omega
theorem z1f:∀ a b:yD,zdn (a++b)=max (zdn a) (zdn b)
 | [],b=>by rw [zFo]; simp
 | t::r,b=>by rw [List.cons_append,zsD,zsD,z1f r b]; omega
structure FB (l:yD):Prop where
 len:l.length<=64
 nes:zdn l<=8
 siz:1+l.length+zb2 l<=4096
 fs:∀ f∈l,f.Exp<=64/\f.At.Items.length<=1024
theorem FB.of {a:yC} (h:zmq a=true) {t:Term} (ht:t∈a):FB t.Fs:=by
 obtain ⟨h1,h2,h3,h4⟩:=zbdd.1 h;obtain ⟨h5,h6⟩:=h4 t ht;refine ⟨h5,Nat.le_trans (z4W ht) h2, ?_,h6⟩
 have key:∀ {a:yC},t∈a->1+t.Fs.length+zb2 t.Fs<=zX a:=by
  intro a;induction a with
  | nil=>intro h; cases h
  | cons u r ih=>
   intro h;rw [zmu];rcases qd.1 h with rfl | h
   ·omega
   ·have:=ih h; omega
 have:=key ht;omega
theorem FB.app {a b:yD} (h:FB (a++b)):FB a/\FB b:=by
 obtain ⟨h1,h2,h3,h4⟩:=h;rw [qg] at h1 h3;rw [z1f] at h2;rw [z0H] at h3;exact ⟨⟨by omega,by omega,by omega,λf hf=>h4 f (by simp [hf])⟩,⟨by omega,by omega,by omega,λf hf=>h4 f (by simp [hf])⟩⟩
theorem OKF.app {a b:yD} (h:OKF zxK (a++b)):OKF zxK a/\OKF zxK b:=⟨⟨(List.pairwise_append.1 h.1).1,λf hf=>h.2 f (by simp [hf])⟩,⟨(List.pairwise_append.1 h.1).2.1,λf hf=>h.2 f (by simp [hf])⟩⟩
section
variable {c:Int} (hc:1<=c/\c<=1152921504606846976)
include hc
end
def AB (x:At):Prop:=znk x<=8/\zj3 x+2<=4096/\x.Items.length<=1024
theorem AB.of {l:yD} (h:FB l) {f:Fc} (hf:f∈l):AB f.At:=by
 refine ⟨Nat.le_trans (zQB hf) h.nes, ?_,(h.fs f hf).2⟩;have h1:=zRa hf
 have h2:1<=l.length:=by cases l with
  | nil=>cases hf
  | cons a r=>simp
 have:=h.siz;omega
theorem zbhT (a b:yD):cL a b=zbO (zb0 a) (zb0 b):=by unfold cL; rw [zbL]
theorem PA.canon {a:yC} (h:PA a):Canon a:=⟨h.1.imp λ{x y} hxy=>by rw [zbhT]; exact hxy,λt ht=>(h.2 t ht).2.1⟩
end Go.Proofs.YtljlfiomikifjaaGreatDoor
end
