/- Texts of this claim, joined (the program, its functions in plain words, and what they compute). -/
import Derived.Test.YtljlfiomikifjaaGreatDoorGC13
set_option autoImplicit false
set_option linter.unusedVariables false
set_option linter.unusedSectionVars false
set_option linter.unusedSimpArgs false
set_option maxRecDepth 1000000
set_option maxHeartbeats 0
noncomputable section
namespace Go.Proofs.YtljlfiomikifjaaGreatDoor
open Go Go.Ab
end Go.Proofs.YtljlfiomikifjaaGreatDoor
/- The law of witnesses. -/
set_option maxRecDepth 100000
namespace Go.Proofs.YtljlfiomikifjaaGreatDoor
open Go Go.Ab
theorem zZ1 {a:yC} (oa:okA a) (ht:zbw a<=40) (hv:zbe a=true):(zcw a).length<=524288/\∀ s∈zcw a,s.length<=40:=by
 have S:=zbeB 12 a oa.1.1 (zkb hv);have hbig:=zbl0 (show (zbw a+1) / 2<=20 by omega)
 have e1:=zWb (zfT a);have hall:=S.all;refine ⟨?_,λs hs=> ?_⟩
 ·show (zuq (zfT a)).length<=_;omega
 ·have:=zNf S.len s hs;omega
end Go.Proofs.YtljlfiomikifjaaGreatDoor
namespace Go.Proofs.YtljlfiomikifjaaGreatDoor
open Go Go.Ab
end Go.Proofs.YtljlfiomikifjaaGreatDoor
/- The law of the order. -/
set_option maxRecDepth 100000
namespace Go.Proofs.YtljlfiomikifjaaGreatDoor
open Go Go.Ab
theorem zbog {a:yC} {n:Nat} (h:zbw a<=n) (hn:n<=38):zbe a=true->zca a:=λhv=>z68 100 a hv (by omega)
end Go.Proofs.YtljlfiomikifjaaGreatDoor
/- The law of worlds. -/
set_option maxRecDepth 100000
namespace Go.Proofs.YtljlfiomikifjaaGreatDoor
open Go Go.Ab
theorem zbk6 (s:yF) (k:Nat) (hk:k<s.length):(s.take k++s.drop (k+1)).Sublist s/\(s.take k++s.drop (k+1)).length<s.length:=by
 refine ⟨?_,by rw [qg,List.length_take,List.length_drop]; omega⟩
 conv=>rhs; rw [<- List.take_append_drop k s,zY hk]
 exact (List.Sublist.refl _).append (List.sublist_cons_self _ _)
theorem zbkW {S:yF} {l:yB}:(l.any λx=>sub x S)=true↔zrC S l:=by
 rw [List.any_eq_true];exact ⟨λ⟨s,hs,h⟩=>⟨s,hs,zNo.1 h⟩,λ⟨s,hs,h⟩=>⟨s,hs,zNo.2 h⟩⟩
theorem zbhe (w:yC):decide (Int.ofNat w.length>0)=decide (w≠[]):=by
 rw [decide_eq_decide];cases w with
 | nil=>simp
 | cons x r=>simp
theorem zblH (w:yC):(Int.ofNat w.length==(0:Int))=decide (w=[]):=by
 cases w with
 | nil=>rfl
 | cons x r=>
  have:(Int.ofNat (x::r).length==(0:Int))=false:=by rw [beq_eq_false_iff_ne,qf,Int.ofNat_eq_natCast]; omega
  rw [this]; simp
theorem zbeW (a:yC) (S:yF) (ha:zbe6 a) (hS:zblF S):zgW a S=(true,true):=by
 have hreach:zP=70368744177664:=rfl;obtain ⟨q,q1,q2⟩:=zbo1 (n:=30) (by omega) ha
 have l18:okA a->zbw a<=30->zca a->zbe a=true->zpW a=true->∀ i:Nat,i<(zcw a).length->∀ n,100<n->zou n a i 0 (zcw a)=(true,.inr (a,(i:Int),zcw a)):=λoa ht sa hv hx i hi n hn=>by
  have hsz:=zZ1 oa (by omega) hv
  have hm:(zcw a).getD i default∈zcw a:=zI hi;have hs40:=hsz.2 _ hm
  have h:=zg7 (W:=zoz) (z:=.inl default) ((zcw a).getD i default).length (λk=>(a,(),(i:Int),(k:Int),())) (λ_=>(zcw a,())) (λ_=>true) (.inl default) (.inr (a,(i:Int),zcw a))
   (λk hk H K D=>by
    show (zgJ a i k (zcw a)).ev H K D=_;unfold zgJ;obtain ⟨sb,sl⟩:=zbk6 ((zcw a).getD i default) k hk;obtain ⟨w,e,hw⟩:=z6e oa sa hv hx ht (((zcw a).getD i default).take k++((zcw a).getD i default).drop (k+1)) (by omega)
    have hno:¬ zn5 (((zcw a).getD i default).take k++((zcw a).getD i default).drop (k+1)) a:=by
     rw [<- zbh9];exact zbmN (l:=zfT a) hm (λx hx=>sb.subset hx) sl ((zFM zis ((zbkF a).2 _ hm)).sublist sb)
    have g1:(decide ((0:Int)<=(0:Int))&&decide ((0:Int)<=(k:Int))&&decide ((k:Int)<=Int.ofNat (List.length ((zcw a).getD i default))))=true:=by simp only [qc,qe,Int.ofNat_eq_natCast]; omega
    have g2:decide ((0+(((zcw a).getD i default).take k).length)*16<=zP)=true:=by rw [qe,List.length_take]; omega
    have g3:(decide ((0:Int)<=((k+1:Nat):Int))&&decide (((k+1:Nat):Int)<=Int.ofNat (List.length ((zcw a).getD i default)))&&decide (Int.ofNat (List.length ((zcw a).getD i default))<=Int.ofNat (List.length ((zcw a).getD i default))))=true:=by simp only [qc,qe,Int.ofNat_eq_natCast]; omega
    have g4:decide (((((zcw a).getD i default).take k).length+(((zcw a).getD i default).drop (k+1)).length)*16<=zP)=true:=by rw [qe,List.length_take,List.length_drop]; omega
    have gi:(decide ((0:Int)<=(i:Int))&&decide ((i:Int)<Int.ofNat (zcw a).length))=true:=by simp only [qc,qe,Int.ofNat_eq_natCast]; omega
    have gk:decide ((k:Int)<Int.ofNat (List.length ((zcw a).getD i default)))=true:=by rw [qe,Int.ofNat_eq_natCast]; omega
    have wk:IntKind.i64.wrap ((k:Int)+1)=((k+1:Nat):Int):=zJ (by omega)
    have z1:decide (Int.ofNat w.1.length>0)=true->w.2≠0:=λh h0=>by
     rw [zbhe,qe] at h;exact hno ((hw h0).1 h)
    simp only [Wy.ev_i,Wy.ev_k,Wy.ev_h,Wy.ev_bn,Wy.ev_d,Int.toNat_natCast,gi,gk,cond_true,wk,zUs,zER,List.nil_append,g1,g2,g3,g4,e];by_cases h0:w.2=0
    ·have ez:(w.2==0)=true:=by rw [h0]; rfl
     have ep:decide (Int.ofNat w.1.length>0)=false:=by
      cases hq:decide (Int.ofNat w.1.length>0) with
      | false=>rfl
      | true=>exact absurd h0 (z1 hq)
     rw [ez,ep]; rfl
    ·have ez:(w.2==0)=false:=by rw [beq_eq_false_iff_ne]; exact h0
     rw [ez]; rfl)
   (λH K D=>by
    show (zgJ a i ((zcw a).getD i default).length (zcw a)).ev H K D=_;unfold zgJ;have gi:(decide ((0:Int)<=(i:Int))&&decide ((i:Int)<Int.ofNat (zcw a).length))=true:=by simp only [qc,qe,Int.ofNat_eq_natCast]; omega
    have gk:decide ((((zcw a).getD i default).length:Int)<Int.ofNat (List.length ((zcw a).getD i default)))=false:=by rw [decide_eq_false_iff_not,Int.ofNat_eq_natCast]; omega
    simp only [Wy.ev_i,Wy.ev_k,Int.toNat_natCast,gi,gk,cond_true,cond_false]) n (by omega)
  rw [show zka (λ_=>true) ((zcw a).getD i default).length 0=true from zlb.2 λ_ _ _=>rfl] at h
  exact h
 have l12:okA a->zbw a<=30->zca a->zbe a=true->zpW a=true->∀ n,(zcw a).length<n->zyd n a 0 (zcw a)=(true,.inr ()):=λoa ht sa hv hx n hn=>by
  have hsz:=zZ1 oa (by omega) hv
  have h:=zg7 (W:=zot) (z:=.inl default) (zcw a).length (λi=>(a,(),(i:Int),())) (λ_=>(zcw a,())) (λ_=>true) (.inl default) (.inr ())
   (λi hi H K D=>by
    show (zgL a i (zcw a)).ev H K D=_;unfold zgL;have hm:(zcw a).getD i default∈zcw a:=zI hi;have hs40:=hsz.2 _ hm;obtain ⟨w,e,hw⟩:=z6e oa sa hv hx ht ((zcw a).getD i default) (by omega)
    have hyes:zn5 ((zcw a).getD i default) a:=by
     rw [<- zbh9];exact ⟨_,hm,λx hx=>hx⟩
    have e18:=l18 oa ht sa hv hx i hi (a.length+i+Int.toNat (0:Int)+(zcw a).length+1000) (by omega)
    have z1:w.2=0->(Int.ofNat w.1.length==(0:Int))=false:=λh0=>by
     rw [zblH,decide_eq_false_iff_not];exact (hw h0).2 hyes
    have wi:IntKind.i64.wrap ((i:Int)+1)=((i+1:Nat):Int):=zJ (by omega)
    simp only [Wy.ev_i,Wy.ev_k,Wy.ev_h,Wy.ev_bn,Wy.ev_d,tT,hi,e,e18,isL,getR,wi];by_cases h0:w.2=0
    ·have ez:(w.2==0)=true:=by rw [h0]; rfl
     have z2:=z1 h0;simp only [Int.ofNat_eq_natCast] at z2;rw [ez,z2]; rfl
    ·have ez:(w.2==0)=false:=by rw [beq_eq_false_iff_ne]; exact h0
     rw [ez]; rfl)
   (λH K D=>by
    show (zgL a (zcw a).length (zcw a)).ev H K D=_;unfold zgL;simp only [Wy.ev_i,Wy.ev_k,tT,Nat.lt_irrefl]) n hn
  rw [show zka (λ_=>true) (zcw a).length 0=true from zlb.2 λ_ _ _=>rfl] at h
  exact h
 have l11:okA a->zbw a<=30->zca a->zbe a=true->zpW a=true->zow 1 a (zcw a)=(true,true):=λoa ht sa hv hx=>by
  show (zol a (zcw a)).ev (zA zoi default 0) (λr=>(true,r)) (false,default)=_
  unfold zol;simp only [Wy.ev_i,Wy.ev_bn,Wy.ev_k,l12 oa ht sa hv hx (a.length+Int.toNat (0:Int)+(zcw a).length+1000) (by omega),cond_true,isL,cond_false]
 have l8:okA a->zbw a<=30->zca a->zbe a=true->zpW a=true->S.length<=8->zkC 1 a S (zcw a)=(true,true):=λoa ht sa hv hx h8=>by
  show (zp0 a S (zcw a)).ev (zA zpH default 0) (λr=>(true,r)) (false,default)=_
  unfold zp0;have hsz:=zZ1 oa (by omega) hv
  obtain ⟨w,e,hw⟩:=z6e oa sa hv hx ht S (by omega)
  have ei:=zbey S (zcw a) (by omega) (by omega) λx hx=>by have:=hsz.2 x hx; omega
  simp only [Wy.ev_i,Wy.ev_bn,Wy.ev_k,e,ei,l11 oa ht sa hv hx,cond_true];by_cases h0:w.2=0
  ·have ez:(w.2==0)=true:=by rw [h0]; rfl
   have:decide (Int.ofNat w.1.length>0)=((zcw a).any λx=>sub x S):=by
    rw [zbhe,Bool.eq_iff_iff,qe,zbkW,zbh9];exact hw h0
   rw [ez,this];cases (zcw a).any λx=>sub x S <;>rfl
  ·have ez:(w.2==0)=false:=by rw [beq_eq_false_iff_ne]; exact h0
   rw [ez]; rfl
 have l5:okA a->zbw a<=30->(zbe a=true->zca a)->S.length<=8->zzT 1 a S=(true,true):=λoa ht sa h8=>by
  show (zpb a S).ev (zA zpg default 0) (λr=>(true,r)) (false,default)=_
  unfold zpb;simp only [Wy.ev_i,Wy.ev_bn,Wy.ev_k,zbfJ oa (by omega:zbw a<=40),cond_true]
  unfold zblx;cases hv:zbe a with
  | false=>rfl
  | true=>
   rw [if_pos rfl];cases hx:zpW a with
   | false=>rfl
   | true=>
    rw [if_pos rfl];by_cases h5:512<(zcw a).length
    ·rw [if_pos h5]; rfl
    ·rw [if_neg h5];show (bif ((0:Int) != 0) then (true,Int.ofNat (zcw a).length==(0:Int)) else bif (zkC 1 a S (zcw a)).1 then (true,(zkC 1 a S (zcw a)).2) else (false,default))=(true,true)
     rw [l8 oa ht (sa hv) hv hx h8]; rfl
 have l3:zzA 1 a S=(true,true):=by
  show (zp3 a S).ev (zA zpA default 0) (λr=>(true,r)) (false,default)=_
  unfold zp3;replace q1:zAJ (30:Int) [a]=(true,q):=q1;simp only [Wy.ev_i,Wy.ev_bn,Wy.ev_k,q1,cond_true];cases q with
  | false=>rfl
  | true=>
   obtain ⟨oa,wa⟩:=q2 rfl;by_cases h8:S.length<=8
   ·have e:decide (Int.ofNat S.length>8)=false:=by rw [decide_eq_false_iff_not,Int.ofNat_eq_natCast]; omega
    rw [l5 oa wa (zbog wa (by omega)) h8,e]; rfl
   ·have e:decide (Int.ofNat S.length>8)=true:=by rw [qe,Int.ofNat_eq_natCast]; omega
    rw [e]; rfl
 unfold zgW zA0;rw [Wy.fin_bn,l3]; rfl
end Go.Proofs.YtljlfiomikifjaaGreatDoor
end
