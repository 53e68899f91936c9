/- Texts of this claim, joined (the program, its functions in plain words, and what they compute). -/
import Derived.WalkKit
import Derived.WalkSpells
import Derived.Test.YtljlfiomikifjaaGreatDoorGC3
set_option autoImplicit false
set_option linter.unusedVariables false
set_option linter.unusedSectionVars false
set_option linter.unusedSimpArgs false
set_option maxRecDepth 1000000
set_option maxHeartbeats 0
noncomputable section
namespace Go.Proofs.YtljlfiomikifjaaGreatDoor
open Go Go.Ab
abbrev zfd:=Unit×yD×Int×Int×Unit
abbrev zff:=List ByteArray×Unit
def zBV (zba:Atom→Bool×ByteArray) (t7:yD) (t8:Int) (t9:Int) (out_:List ByteArray):Wy zfd zff (List ByteArray):=.i (decide (t9<t8)) (.i (decide (0≤t9)&&decide (t9<Int.ofNat t7.length)) (.bn (zba (Atom.mk (t7.getD t9.toNat default).Atom.Kind (t7.getD t9.toNat default).Atom.Row (t7.getD t9.toNat default).Atom.Args (t7.getD t9.toNat default).Atom.Func (t7.getD t9.toNat default).Atom.Items (t7.getD t9.toNat default).Atom.Op (t7.getD t9.toNat default).Atom.Bound)) fun r1=>.i ((t7.getD t9.toNat default).Exp != 1) (.bn (strconv_Itoa (t7.getD t9.toNat default).Exp) fun r0=>.i (decide ((ByteArray.mk #[(94:UInt8)]).size+r0.size≤9223372036854775807)) (.i (decide (r1.size+(ByteArray.mk #[(94:UInt8)]++r0).size≤9223372036854775807)) (.i (decide ((out_.length+[r1++(ByteArray.mk #[(94:UInt8)]++r0)].length)*16≤zbk)) (.h ((),t7,t8,(IntKind.i64.wrap (t9+1)),()) ((out_++[r1++(ByteArray.mk #[(94:UInt8)]++r0)]),())) .d) .d) .d) (.i (decide ((out_.length+[r1].length)*16≤zbk)) (.h ((),t7,t8,(IntKind.i64.wrap (t9+1)),()) ((out_++[r1]),())) .d)) .d) (.k out_)
def zsO (zba:Atom→Bool×ByteArray) (x:zfd) (y:zff):Wy zfd zff (List ByteArray):=zBV zba x.2.1 x.2.2.1 x.2.2.2.1 y.1
def zB8 (zba:Atom→Bool×ByteArray) (n:Nat) (t7:yD) (t8:Int) (t9:Int) (out_:List ByteArray):Bool×List ByteArray:=zJ (zsO zba) default n ((),t7,t8,t9,()) (out_,())
def zBO (r:List ByteArray):LTree ty:=.done (.exit 0) [.own 128] [.arr 9 r false]
def zBT:LL ty zfd:=za (lOwn 128) (za (lSl 69) (za lI64 (za lI64 zn)))
def zBX:BL ty zff:=bArr 9 false (bNil)
def zBd (x:zfd) (y:zff):Nat:=(x.2.1.length+Int.toNat x.2.2.1+Int.toNat x.2.2.2.1+y.1.length+1)
def zsP (zba:Atom→Bool×ByteArray):Cx ty:=mkCx base0 32 [(167,(zk0 zba)),(168,strconv_Itoa_spec),(169,strings_Join_spec)] [] [(3,[(3,.own 9),(7,.keep),(8,.keep),(9,.keep)])] [(3,1,(kpL [3]))] [(3,spW zBT zBX (zsO zba) default zBO zBd)] []
theorem zBa (zba:Atom→Bool×ByteArray):zI (zsP zba) (lp (body Tryz.f139) 0):=zt (id:=3) (hl:=rfl)
def zDi (zba:Atom→Bool×ByteArray) (l:yD):Wy0 (ByteArray):=.bn (zB8 zba (l.length+(Int.ofNat l.length).toNat +Int.toNat 0+0+1) l (Int.ofNat l.length) 0 []) fun r5=>.bn (strings_Join r5 (ByteArray.mk #[(42:UInt8)])) fun r4=>.k r4
def zvS (zba:Atom→Bool×ByteArray) (l:yD):Bool×ByteArray:=(zDi zba l).fin default
theorem zz0 (zba:Atom→Bool×ByteArray) (zGu:Sound Tryz.prog base0 167 (zk0 zba)):Sound Tryz.prog base0 139 (zfA (zvS zba)):=
 sW (cx':=(zsP zba)) zq zh8 zk (zj ⟨zGu,zEi.nodr,zxS,trivial⟩) Tryz.call139 Tryz.func139 (c:=body Tryz.f139) (lOK (aC (zBa zba) aN))
abbrev zmt:=Unit×yC×Int×Int×Unit
abbrev zma:=List ByteArray×Unit
def zN6 (zU:yD→Bool×ByteArray) (t9:yC) (t10:Int) (t11:Int) (out_:List ByteArray):Wy zmt zma (List ByteArray):=.i (decide (t11<t10)) (.i (decide (0≤t11)&&decide (t11<Int.ofNat t9.length)) (.i (Int.ofNat (t9.getD t11.toNat default).Factors.length==0) (.bn (zni (t9.getD t11.toNat default).Coeff 10) fun r0=>.i (decide ((out_.length+[r0].length)*16≤zbk)) (.h ((),t9,t10,(IntKind.i64.wrap (t11+1)),()) ((out_++[r0]),())) .d) (.i ((t9.getD t11.toNat default).Coeff==1) (.bn (zU (t9.getD t11.toNat default).Factors) fun r1=>.i (decide ((out_.length+[r1].length)*16≤zbk)) (.h ((),t9,t10,(IntKind.i64.wrap (t11+1)),()) ((out_++[r1]),())) .d) (.bn (zni (t9.getD t11.toNat default).Coeff 10) fun r3=>.i (decide (r3.size+(ByteArray.mk #[(42:UInt8)]).size≤9223372036854775807)) (.bn (zU (t9.getD t11.toNat default).Factors) fun r2=>.i (decide ((r3++ByteArray.mk #[(42:UInt8)]).size+r2.size≤9223372036854775807)) (.i (decide ((out_.length+[r3++ByteArray.mk #[(42:UInt8)]++r2].length)*16≤zbk)) (.h ((),t9,t10,(IntKind.i64.wrap (t11+1)),()) ((out_++[r3++ByteArray.mk #[(42:UInt8)]++r2]),())) .d) .d) .d))) .d) (.k out_)
def zBB (zU:yD→Bool×ByteArray) (x:zmt) (y:zma):Wy zmt zma (List ByteArray):=zN6 zU x.2.1 x.2.2.1 x.2.2.2.1 y.1
def zOx (zU:yD→Bool×ByteArray) (n:Nat) (t9:yC) (t10:Int) (t11:Int) (out_:List ByteArray):Bool×List ByteArray:=zJ (zBB zU) default n ((),t9,t10,t11,()) (out_,())
def zNO (r:List ByteArray):LTree ty:=.done (.exit 0) [.own 200] [.arr 9 r false]
def zO8:LL ty zmt:=za (lOwn 200) (za (lSl 28) (za lI64 (za lI64 zn)))
def zNX:BL ty zma:=bArr 9 false (bNil)
def zMF (x:zmt) (y:zma):Nat:=(x.2.1.length+Int.toNat x.2.2.1+Int.toNat x.2.2.2.1+y.1.length+1)
def zBC (zU:yD→Bool×ByteArray):Cx ty:=mkCx base0 50 [(139,(zfA zU)),(169,strings_Join_spec),(227,strconv_FormatInt_spec)] [] [(5,[(3,.own 9),(9,.keep),(10,.keep),(11,.keep)])] [(5,1,(kpL [3]))] [(5,spW zO8 zNX (zBB zU) default zNO zMF)] []
theorem zMu (zU:yD→Bool×ByteArray):zI (zBC zU) (lp (body Tryz.f196) 0):=zt (id:=5) (hl:=rfl)
def zQY (zU:yD→Bool×ByteArray) (a:yC):Wy0 (ByteArray):=.i (Int.ofNat a.length==0) (.k (ByteArray.mk #[(48:UInt8)])) (.bn (zOx zU (a.length+(Int.ofNat a.length).toNat +Int.toNat 0+0+1) a (Int.ofNat a.length) 0 []) fun r9=>.bn (strings_Join r9 (ByteArray.mk #[(32:UInt8),(43:UInt8),(32:UInt8)])) fun r8=>.k r8)
def zGe (zU:yD→Bool×ByteArray) (a:yC):Bool×ByteArray:=(zQY zU a).fin default
theorem zKf (zU:yD→Bool×ByteArray) (zCJ:Sound Tryz.prog base0 139 (zfA zU)):Sound Tryz.prog base0 196 (zsZ (zGe zU)):=
 sW (cx':=(zBC zU)) zq zh8 zk (zj ⟨zCJ,zxS,zyu.nodr,trivial⟩) Tryz.call196 Tryz.func196 (c:=body Tryz.f196) (lOK (aC (zMu zU) aN))
def zCG:Nat→(yC→Bool×ByteArray)×(Atom→Bool×ByteArray)×(yD→Bool×ByteArray)
 | 0=>(fun _=>(false,default),fun _=>(false,default),fun _=>(false,default))
 | n+1=>(zGe ((zCG n).2.2),zyB ((zCG n).1),zvS ((zCG n).2.1))
def zVf (n:Nat):yC→Bool×ByteArray:=(zCG n).1
def zKe (n:Nat):Atom→Bool×ByteArray:=(zCG n).2.1
def zvv (n:Nat):yD→Bool×ByteArray:=(zCG n).2.2
theorem zXS:∀ n,Sound Tryz.prog base0 196 (zsZ (zVf n))∧Sound Tryz.prog base0 167 (zk0 (zKe n))∧Sound Tryz.prog base0 139 (zfA (zvv n))
 | 0=>⟨zY Tryz.call196 (fun _=>rfl),zY Tryz.call167 (fun _=>rfl),zY Tryz.call139 (fun _=>rfl)⟩
 | n+1=>by
  have ih:=zXS n;exact ⟨zKf _ (ih.2.2),zBZ _ (ih.1),zz0 _ (ih.2.1)⟩
def zxY:yD→Bool×ByteArray:=zvv 1000
def annotation_formatFactors_spec:Ab.Spec ty:=zfA zxY
theorem zBF:Sound Tryz.prog base0 139 annotation_formatFactors_spec:=(zXS 1000).2.2
def zku (x:yC) (a b lim:Int):Bool×yC:=zZw zb7 x a b lim
def slices_pdqsortCmpFunc_api_Term_spec:Ab.Spec ty:=zh (cx:=base) (zd (aOwn 28) (zd (ze (vInt .i64)) (zd (ze (vInt .i64)) (zd (ze (vInt .i64)) (zd (ze (vFn 63 vNil)) aNil))))) fun x=>((zku x.1 x.2.1 x.2.2.1 x.2.2.2.1).1,⟨[],[some ⟨28,(zku x.1 x.2.1 x.2.2.1 x.2.2.2.1).2⟩]⟩)
theorem zyM (c:Unit) (x y:Term) (h:(zb7 x y).1=true):annotation_compareLists_spec ((AV.agg (base.enc 28 x)::AV.agg (base.enc 28 y)::(vNil:VL base Unit).enc c).map Arg.pure)=some (true,⟨[.pure (.lit (.int .i64 (zb7 x y).2))],[]⟩):=by
 rw [← h]; kernel_rfl
theorem zxO:SdP 155 slices_pdqsortCmpFunc_api_Term_spec:=by
 letI:DecidableEq (ty 28):=inferInstanceAs (DecidableEq Term)
 exact z5p (T:=28) zi rfl Go.Proofs.Tryz.pdqTerm Tryz.isAgg28 (by unfold szOf; exact Tryz.sizeOf28) Tryz.call155 zkR vNil (fun c=>zb7) zyM
open Go.Proofs Go.RowKit
def zbU (x:yC):Bool×yC:=zz6 zb7 x
def zew:Ab.Spec ty:=zh (cx:=base) (zd (aOwn 28) (zd (ze (vFn 63 vNil)) aNil)) fun x=>((zbU x.1).1,⟨[],[some ⟨28,(zbU x.1).2⟩]⟩)
set_option maxHeartbeats 1000000 in
theorem zsd:SdP 96 zew where
 enters:=Tryz.call96
 calls:=fun avs r hsp w F vs hF ha hsep=>by
  unfold zew zh at hsp;split at hsp
  ·rename_i x hx;simp only [qa,qb] at hsp;obtain ⟨hpre,rfl⟩:=hsp;have hk:=(zd (aOwn 28) (zd (ze (vFn 63 vNil)) aNil):AL base _).kind vs avs x hx;have ha':=(zd (aOwn 28) (zd (ze (vFn 63 vNil)) aNil):AL base _).ok Tryz.prog zi F w vs avs x hx ha;rw [hk] at hsep ⊢;clear hk hx ha;obtain ⟨l0,c,u0⟩:=x;obtain ⟨l,rfl⟩:∃ l:yC,l=l0:=⟨l0,rfl⟩;obtain ⟨v,vs',rfl,hv,hv'⟩:=ha'.inv;obtain ⟨fv,vs'',rfl,hfv,h0⟩:=hv'.inv;obtain rfl:=h0.nil_left.1
   have hsl:∃ p cap,v=.slice p l.length cap:=by
    obtain ⟨⟨xs,hown,_⟩,_⟩:=(show zcH base F w v 28 l∧∀ b,zbb v=some b→¬ F b from hv)
    rcases hown.2 with ⟨h1,h2⟩ | ⟨g0,cap,cur,h1,_⟩
    ·exact ⟨none,0,by rw [h1,show l.length=0 from h2]⟩
    ·exact ⟨_,cap,h1⟩
   have hok:SortOK (α:=Term) zb7 l:=of_decide_eq_true (p:=SortOK (α:=Term) zb7 l) hpre;have hlen:l.length<4611686018427387904:=hok.size;have hbl:Lib.bitLen l.length<4611686018427387904:=Nat.lt_of_le_of_lt (Lib.bitLen_le l.length 62 (by omega) (by omega)) (by omega)
   have hpp:(zku l 0 (l.length:Int) ((Lib.bitLen l.length:Nat):Int)).1=true:=by
    show (decide (SortOK (α:=Term) zb7 l)&&(decide ((0:Int)=0)&&(decide ((l.length:Int)=l.length)&&(decide ((0:Int)≤((Lib.bitLen l.length:Nat):Int))&&decide (((Lib.bitLen l.length:Nat):Int)<4611686018427387904)))))=true;simp only [qc,qe];exact ⟨hok,trivial,trivial,by omega,by omega⟩
   have hp:=(zxO).calls [.own 28 l,.pure (.lit (.int .i64 0)),.pure (.lit (.int .i64 (l.length:Int))),.pure (.lit (.int .i64 ((Lib.bitLen l.length:Nat):Int))),.pure (.fn 63 [])] ⟨[],[some ⟨28,(zbU l).2⟩]⟩
    (by rw [← hpp]; kernel_rfl) w F [v,.int .i64 0,.int .i64 (l.length:Int),.int .i64 ((Lib.bitLen l.length:Nat):Int),fv] hF (.cons hv (.cons (Rep.lit _) (.cons (Rep.lit _) (.cons (Rep.lit _) (.cons hfv .nil))))) hsep
   replace hp:Calls Tryz.prog 155 #[v,.int .i64 0,.int .i64 (l.length:Int),.int .i64 ((Lib.bitLen l.length:Nat):Int),fv] w fun e w'=>∃ u,e=.returned u∧Post base F w [v] ⟨[],[some ⟨28,(zbU l).2⟩]⟩ u w':=hp
   show Calls Tryz.prog 96 #[v,fv] w fun e w'=>∃ u,e=.returned u∧Post base F w [v] ⟨[],[some ⟨28,(zbU l).2⟩]⟩ u w'
   have hb:Calls Tryz.prog 156 #[.int .u64 (l.length:Int)] w fun e w'=>e=.returned (.int .i64 ((Lib.bitLen l.length:Nat):Int))∧w'=w:=by
    have h:=Any.bits_Len Go.Proofs.Tryz.lays125 (l.length:Int) w (by omega) (by omega)
    rwa [Int.toNat_natCast] at h
   have wr:IntKind.u64.wrap (l.length:Int)=l.length:=by simp [IntKind.wrap,IntKind.bits,IntKind.signed]; omega
   generalize (zbU l).2=res at hp ⊢;generalize hn:l.length=m at *;generalize Lib.bitLen m=bl at *;clear hpp hv hfv hsep hok hpre hF;obtain ⟨p,cap,rfl⟩:=hsl;clear hn
   go_enter Tryz.func96,Tryz.ntmps96
   go_wp2_with (first | (go_at_call 156; refine hb.mono ?_; rintro e w' ⟨rfl,rfl⟩) | (go_at_call 155; refine hp.mono ?_; rintro e w' ⟨u,rfl,hpost⟩; obtain rfl:=hpost.unit))
   go_end0
   exact ⟨_,rfl,hpost⟩
  ·cases hsp
end Go.Proofs.YtljlfiomikifjaaGreatDoor
namespace Go.Proofs.YtljlfiomikifjaaGreatDoor
open Go Go.Ab
abbrev zjt:=Unit×Unit×yC×Int×Int×Unit
abbrev zjb:=(List (_root_.Go.Value×Int))×yC×Unit
def zNU (t11:yC) (t12:Int) (t13:Int) (at_:List (_root_.Go.Value×Int)) (out_:yC):Wy zjt zjb (yC):=.i (decide (t13<t12)) (.i (decide (0≤t13)&&decide (t13<Int.ofNat t11.length)) (.bn (zxY (t11.getD t13.toNat default).Factors) fun r0=>.i (zbah (Value.string r0) at_) (.i (decide (0≤(zG5 (Value.string r0) at_).getD 0)&&decide ((zG5 (Value.string r0) at_).getD 0<Int.ofNat out_.length)) (.i (decide (0≤(zG5 (Value.string r0) at_).getD 0)&&decide ((zG5 (Value.string r0) at_).getD 0<Int.ofNat out_.length)) (.i (decide (Int.toNat ((zG5 (Value.string r0) at_).getD 0)<out_.length)) (.h ((),(),t11,t12,(IntKind.i64.wrap (t13+1)),()) (at_,(out_.set (Int.toNat ((zG5 (Value.string r0) at_).getD 0)) (TermOf.mk (if 1152921504606846976<IntKind.i64.wrap ((out_.getD (Int.toNat ((zG5 (Value.string r0) at_).getD 0)) default).Coeff+(t11.getD t13.toNat default).Coeff) then 1152921504606846976 else IntKind.i64.wrap ((out_.getD (Int.toNat ((zG5 (Value.string r0) at_).getD 0)) default).Coeff+(t11.getD t13.toNat default).Coeff)) (out_.getD (Int.toNat ((zG5 (Value.string r0) at_).getD 0)) default).Factors)),())) .d) .d) .d) (.i (decide ((out_.length+[t11.getD t13.toNat default].length)*32≤zbk)) (.h ((),(),t11,t12,(IntKind.i64.wrap (t13+1)),()) ((zbaq (Value.string r0) (Int.ofNat out_.length) at_),(out_++[t11.getD t13.toNat default]),())) .d)) .d) (.k out_)
def zAn (x:zjt) (y:zjb):Wy zjt zjb (yC):=zNU x.2.2.1 x.2.2.2.1 x.2.2.2.2.1 y.1 y.2.1
def zMl (n:Nat) (t11:yC) (t12:Int) (t13:Int) (at_:List (_root_.Go.Value×Int)) (out_:yC):Bool×yC:=zJ (zAn) default n ((),(),t11,t12,t13,()) (at_,out_,())
def zLH (r:yC):LTree ty:=.done (.exit 0) [.own 208] [.arr 28 r false]
def zNv:LL ty zjt:=za (lMp 208) (za (lOwn 209) (za (lSl 28) (za lI64 (za lI64 zn))))
def zMH:BL ty zjb:=bMp 9 3 false (bArr 28 false (bNil))
def zLp (x:zjt) (y:zjb):Nat:=(x.2.2.1.length+Int.toNat x.2.2.2.1+Int.toNat x.2.2.2.2.1+y.1.length+y.2.1.length+1)
def zAc:Cx ty:=mkCx base0 52 [(63,annotation_compareLists_spec),(96,zew),(139,annotation_formatFactors_spec)] [(96,[true,false])] [(4,[(3,.keep),(4,.own 28),(11,.keep),(12,.keep),(13,.keep)])] [(4,1,(kpL [4]))] [(4,spW zNv zMH (zAn) default zLH zLp)] []
theorem zK2:zI zAc (lp (body Tryz.f71) 0):=zt (id:=4) (hl:=rfl)
def zOt (terms:yC):Wy0 (yC):=.bn (zMl (terms.length+(Int.ofNat terms.length).toNat +Int.toNat 0+0+0+1) terms (Int.ofNat terms.length) 0 [] []) fun r3=>.bn (zbU r3) fun r2=>.k r2
def zr5 (terms:yC):Bool×yC:=(zOt terms).fin default
def zq5:Ab.Spec ty:=zh zVK fun x=>((zr5 x.1).1,zFD (zr5 x.1).2)
theorem zxQ:Sound Tryz.prog base0 71 zq5:=
 sW (cx':=zAc) zq zh8 zk (zj ⟨zkR.nodr,zsd.nodr,zBF,trivial⟩) Tryz.call71 Tryz.func71 (c:=body Tryz.f71) (lOK (aC zK2 aN)) (sg:=⟨[.own 28],[]⟩)
def zle (F:yC→Bool×yC):Ab.Spec ty:=zh z1A fun x=>((F x.1).1,zFD (F x.1).2)
def zGP (r:Atom):ARes ty:=⟨[.pure (.agg (base.enc 67 r))],[]⟩
def zkY (F:Atom→Bool×Atom):Ab.Spec ty:=zh zUv fun x=>((F x.1).1,zGP (F x.1).2)
def zd7:Cx ty:={ base with nt:=8 }
def zhA (s:yD):Bool×yD:=(decide (s.length*128≤zbk),s)
def zkm:Ab.Spec ty:=zh (cx:=base) (zd (ze (vSl 69)) aNil) fun x=>((zhA x.1).1,⟨[.own 69 (zhA x.1).2],[]⟩)
theorem zvB:zf6 zd7 Tryz.f95 (body Tryz.f95) ⟨[.own 69],[]⟩ [.pure (.lit (.slice none 0 0))]=some ⟨[.own 69 []],[]⟩:=by kernel_rfl
theorem ztZ (p:Addr) (c:Nat):zf6 zd7 Tryz.f95 (body Tryz.f95) ⟨[.own 69],[]⟩ [.pure (.lit (.slice (some p) 0 c))]=some ⟨[.own 69 []],[]⟩:=by kernel_rfl
theorem zuY (l:yD):zf6 zd7 Tryz.f95 (body Tryz.f95) ⟨[.own 69],[]⟩ [.pure (.sl 69 l)]=bif !l.isEmpty then bif decide ((([]:List (ty 69)).length+l.length)*128≤zbk) then some ⟨[.own 69 l],[]⟩ else none else none:=by kernel_rfl
theorem zuj:SdP 95 zkm:=
 zDD (cx':=zd7) (bytes:=128) zq zi ⟨⟨rfl,rfl,rfl,rfl,rfl,rfl⟩,rfl⟩ (fun g s h=>by cases h) Tryz.call95 Tryz.func95 (c:=body Tryz.f95) (by kernel_rfl) (zyf (l:=[]) (by kernel_rfl) trivial) zvB ztZ zuY (by kernel_rfl)
abbrev zka:=Unit×Unit×Unit×yC×Int×Int×Int×Int×Unit
abbrev zkg:=yC×Term×yD×Unit
abbrev zoe:=yC×Int×Int×yC×Term×yD
abbrev zkh:=Unit×yC×Int×Int×Unit
abbrev zkv:=yC×Unit
def zLg (zG:Atom→Bool×Atom) (t8:yC) (t9:Int) (t10:Int) (t18:Int) (t19:Int) (out_:yC) (t:Term) (factors:yD):Wy zka zkg zoe:=.i (decide (t19<t18)) (.i (decide (0≤t19)&&decide (t19<Int.ofNat factors.length)) (.bn (zG (Atom.mk (factors.getD t19.toNat default).Atom.Kind (factors.getD t19.toNat default).Atom.Row (factors.getD t19.toNat default).Atom.Args (factors.getD t19.toNat default).Atom.Func (factors.getD t19.toNat default).Atom.Items (factors.getD t19.toNat default).Atom.Op (factors.getD t19.toNat default).Atom.Bound)) fun r2=>.i (decide (0≤t19)&&decide (t19<Int.ofNat factors.length)) (.i (decide (t19.toNat<factors.length)) (.h ((),(),(),t8,t9,t10,t18,(IntKind.i64.wrap (t19+1)),()) (out_,t,(factors.set t19.toNat (FactorOf.mk (Atom.mk r2.Kind r2.Row r2.Args r2.Func r2.Items r2.Op r2.Bound) (factors.getD t19.toNat default).Exp)),())) .d) .d) .d) (.k (t8,t9,t10,out_,t,factors))
def zzf (zG:Atom→Bool×Atom) (x:zka) (y:zkg):Wy zka zkg zoe:=zLg zG x.2.2.2.1 x.2.2.2.2.1 x.2.2.2.2.2.1 x.2.2.2.2.2.2.1 x.2.2.2.2.2.2.2.1 y.1 y.2.1 y.2.2.1
def zLj (zG:Atom→Bool×Atom) (n:Nat) (t8:yC) (t9:Int) (t10:Int) (t18:Int) (t19:Int) (out_:yC) (t:Term) (factors:yD):Bool×zoe:=zJ (zzf zG) default n ((),(),(),t8,t9,t10,t18,t19,()) (out_,t,factors,())
def zJ9 (r:zoe):LTree ty:=.done (.exit 2) [.own 168,.ptr 169 0,.own 170,.sl 28 r.1,.lit (.int .i64 r.2.1),.lit (.int .i64 r.2.2.1)] [.arr 28 r.2.2.2.1 false,.box (base.enc 28 r.2.2.2.2.1) false,.arr 69 r.2.2.2.2.2 false]
def zLm:LL ty zka:=za (lOwn 168) (za (zdC 169 0) (za (lOwn 170) (za (lSl 28) (za lI64 (za lI64 (za lI64 (za lI64 zn)))))))
def zLO:BL ty zkg:=bArr 28 false (bBox (zd6 (fun x=>(⟨x.1,x.2.1⟩:Term)) (fun x=>(x.Coeff,x.Factors,())) (fun _=>rfl) (za (lInt .i64) (za (lSl 69) zn))) false (bArr 69 false (bNil)))
def zLU (zG:Atom→Bool×Atom) (t8:yC) (t9:Int) (t10:Int) (out_:yC):Wy zkh zkv (yC):=.i (decide (t10<t9)) (.i (decide (0≤t10)&&decide (t10<Int.ofNat t8.length)) (.bn (zhA (t8.getD t10.toNat default).Factors) fun r5=>.bn (zLj zG (t8.length+t9.toNat +t10.toNat +(Int.ofNat r5.length).toNat +Int.toNat 0+out_.length+(t8.getD t10.toNat default).Factors.length+r5.length+1) t8 t9 t10 (Int.ofNat r5.length) 0 out_ (t8.getD t10.toNat default) r5) fun r4=>.i (decide ((r4.2.2.2.1.length+[TermOf.mk r4.2.2.2.2.1.Coeff r4.2.2.2.2.2].length)*32≤zbk)) (.h ((),(r4.1),(r4.2.1),(IntKind.i64.wrap (r4.2.2.1+1)),()) ((r4.2.2.2.1++[TermOf.mk r4.2.2.2.2.1.Coeff r4.2.2.2.2.2]),())) .d) .d) (.k out_)
def zzc (zG:Atom→Bool×Atom) (x:zkh) (y:zkv):Wy zkh zkv (yC):=zLU zG x.2.1 x.2.2.1 x.2.2.2.1 y.1
def zLM (zG:Atom→Bool×Atom) (n:Nat) (t8:yC) (t9:Int) (t10:Int) (out_:yC):Bool×yC:=zJ (zzc zG) default n ((),t8,t9,t10,()) (out_,())
def zJB (r:yC):LTree ty:=.done (.exit 0) [.own 168] [.arr 28 r false]
def zK1:LL ty zkh:=za (lOwn 168) (za (lSl 28) (za lI64 (za lI64 zn)))
def zKX:BL ty zkv:=bArr 28 false (bNil)
def zKh (x:zka) (y:zkg):Nat:=(x.2.2.2.1.length+Int.toNat x.2.2.2.2.1+Int.toNat x.2.2.2.2.2.1+Int.toNat x.2.2.2.2.2.2.1+Int.toNat x.2.2.2.2.2.2.2.1+y.1.length+y.2.1.Factors.length+y.2.2.1.length+1)
def zJr (x:zkh) (y:zkv):Nat:=(x.2.1.length+Int.toNat x.2.2.1+Int.toNat x.2.2.2.1+y.1.length+1)
def zso (zG:Atom→Bool×Atom):Cx ty:=mkCx base 42 [(95,zkm),(151,(zkY zG))] [] [(3,[(3,.own 28),(8,.keep),(9,.keep),(10,.keep)]),(7,(kpL [3,5,6,8,9,10,18,19]))] [(3,1,(kpL [3])),(7,3,(kpL [3,5,6,8,9,10]))] [(7,spW zLm zLO (zzf zG) default zJ9 zKh),(3,spW zK1 zKX (zzc zG) default zJB zJr)] []
theorem zJ7 (zG:Atom→Bool×Atom):zI (zso zG) (lp (body Tryz.f87) 1):=zt (id:=7) (hl:=rfl)
theorem zJv (zG:Atom→Bool×Atom):zI (zso zG) (lp (body Tryz.f87) 0):=zt (id:=3) (hl:=rfl)
def zM5 (zG:Atom→Bool×Atom) (a:yC):Wy0 (yC):=.bn (zLM zG (a.length+(Int.ofNat a.length).toNat +Int.toNat 0+0+1) a (Int.ofNat a.length) 0 []) fun r8=>.k r8
def zCc (zG:Atom→Bool×Atom) (a:yC):Bool×yC:=(zM5 zG a).fin default
theorem zHa (zG:Atom→Bool×Atom) (zGV:SdP 151 (zkY zG)):SdP 87 (zle (zCc zG)):=
 sW (cx':=(zso zG)) zq zi zk (zj ⟨zuj,zGV,trivial⟩) Tryz.call87 Tryz.func87 (c:=body Tryz.f87) (lOK (aC (zJv zG) (aC (zJ7 zG) aN))) (sg:=⟨[.own 28],[]⟩)
def zc9:Cx ty:={ base with nt:=8 }
def zeF (s:yA):Bool×yA:=(decide (s.length*24≤zbk),s)
def zg8:Ab.Spec ty:=zh (cx:=base) (zd (ze (vSl 23)) aNil) fun x=>((zeF x.1).1,⟨[.own 23 (zeF x.1).2],[]⟩)
theorem zqh:zf6 zc9 Tryz.f181 (body Tryz.f181) ⟨[.own 23],[]⟩ [.pure (.lit (.slice none 0 0))]=some ⟨[.own 23 []],[]⟩:=by kernel_rfl
theorem zoI (p:Addr) (c:Nat):zf6 zc9 Tryz.f181 (body Tryz.f181) ⟨[.own 23],[]⟩ [.pure (.lit (.slice (some p) 0 c))]=some ⟨[.own 23 []],[]⟩:=by kernel_rfl
theorem zo2 (l:yA):zf6 zc9 Tryz.f181 (body Tryz.f181) ⟨[.own 23],[]⟩ [.pure (.sl 23 l)]=bif !l.isEmpty then bif decide ((([]:List (ty 23)).length+l.length)*24≤zbk) then some ⟨[.own 23 l],[]⟩ else none else none:=by kernel_rfl
theorem zoy:SdP 181 zg8:=
 zDD (cx':=zc9) (bytes:=24) zq zi ⟨⟨rfl,rfl,rfl,rfl,rfl,rfl⟩,rfl⟩ (fun g s h=>by cases h) Tryz.call181 Tryz.func181 (c:=body Tryz.f181) (by kernel_rfl) (zyf (l:=[]) (by kernel_rfl) trivial) zqh zoI zo2 (by kernel_rfl)
def zdF:Cx ty:={ base with nt:=8 }
def zfD (s:yE):Bool×yE:=(decide (s.length*56≤zbk),s)
def ziz:Ab.Spec ty:=zh (cx:=base) (zd (ze (vSl 100)) aNil) fun x=>((zfD x.1).1,⟨[.own 100 (zfD x.1).2],[]⟩)
theorem zsV:zf6 zdF Tryz.f182 (body Tryz.f182) ⟨[.own 100],[]⟩ [.pure (.lit (.slice none 0 0))]=some ⟨[.own 100 []],[]⟩:=by kernel_rfl
theorem zr0 (p:Addr) (c:Nat):zf6 zdF Tryz.f182 (body Tryz.f182) ⟨[.own 100],[]⟩ [.pure (.lit (.slice (some p) 0 c))]=some ⟨[.own 100 []],[]⟩:=by kernel_rfl
theorem zsn (l:yE):zf6 zdF Tryz.f182 (body Tryz.f182) ⟨[.own 100],[]⟩ [.pure (.sl 100 l)]=bif !l.isEmpty then bif decide ((([]:List (ty 100)).length+l.length)*56≤zbk) then some ⟨[.own 100 l],[]⟩ else none else none:=by kernel_rfl
theorem zrv:SdP 182 ziz:=
 zDD (cx':=zdF) (bytes:=56) zq zi ⟨⟨rfl,rfl,rfl,rfl,rfl,rfl⟩,rfl⟩ (fun g s h=>by cases h) Tryz.call182 Tryz.func182 (c:=body Tryz.f182) (by kernel_rfl) (zyf (l:=[]) (by kernel_rfl) trivial) zsV zr0 zsn (by kernel_rfl)
abbrev zcn:=Unit×Unit×Int×Int×Unit
abbrev zgI:=(Int×Int×Int×Unit×Int×yE×Int×Int×Int×ByteArray×Unit)×(Int×Int×Int×Unit×Int×Unit×Int×Int×Int×ByteArray×Unit)×yA×Unit
abbrev zkq:=Int×Int×Int×Int×yE×Int×Int×Int×ByteArray×Int×Int×Int×Int×Int×Int×Int×ByteArray×yA
abbrev zgV:=(Int×Int×Int×Unit×Int×Unit×Int×Int×Int×ByteArray×Unit)×(Int×Int×Int×Unit×Int×Unit×Int×Int×Int×ByteArray×Unit)×yA×yE×Unit
abbrev zj5:=Int×Int×Int×Int×Int×Int×Int×ByteArray×Int×Int×Int×Int×Int×Int×Int×ByteArray×yA×yE
def zFS (zR:yC→Bool×yC) (t11:Int) (t12:Int) (x_0:Int) (x_1:Int) (x_2:Int) (x_3:Int) (x_4:yE) (x_5:Int) (x_6:Int) (x_7:Int) (x_8:ByteArray) (t2_0:Int) (t2_1:Int) (t2_2:Int) (t2_3:Int) (t2_4:Int) (t2_5:Int) (t2_6:Int) (t2_7:ByteArray) (b2:yA):Wy zcn zgI zkq:=.i (decide (t12<t11)) (.i (decide (0≤t12)&&decide (t12<Int.ofNat b2.length)) (.bn (zR (b2.getD t12.toNat default)) fun r0=>.i (decide (0≤t12)&&decide (t12<Int.ofNat b2.length)) (.i (decide (t12.toNat<b2.length)) (.h ((),(),t11,(IntKind.i64.wrap (t12+1)),()) ((x_0,x_1,x_2,(),x_3,x_4,x_5,x_6,x_7,x_8,()),(t2_0,t2_1,t2_2,(),t2_3,(),t2_4,t2_5,t2_6,t2_7,()),(b2.set t12.toNat r0),())) .d) .d) .d) (.k (x_0,x_1,x_2,x_3,x_4,x_5,x_6,x_7,x_8,t2_0,t2_1,t2_2,t2_3,t2_4,t2_5,t2_6,t2_7,b2))
def zvZ (zR:yC→Bool×yC) (x:zcn) (y:zgI):Wy zcn zgI zkq:=zFS zR x.2.2.1 x.2.2.2.1 y.1.1 y.1.2.1 y.1.2.2.1 y.1.2.2.2.2.1 y.1.2.2.2.2.2.1 y.1.2.2.2.2.2.2.1 y.1.2.2.2.2.2.2.2.1 y.1.2.2.2.2.2.2.2.2.1 y.1.2.2.2.2.2.2.2.2.2.1 y.2.1.1 y.2.1.2.1 y.2.1.2.2.1 y.2.1.2.2.2.2.1 y.2.1.2.2.2.2.2.2.1 y.2.1.2.2.2.2.2.2.2.1 y.2.1.2.2.2.2.2.2.2.2.1 y.2.1.2.2.2.2.2.2.2.2.2.1 y.2.2.1
def zFt (zR:yC→Bool×yC) (n:Nat) (t11:Int) (t12:Int) (x_0:Int) (x_1:Int) (x_2:Int) (x_3:Int) (x_4:yE) (x_5:Int) (x_6:Int) (x_7:Int) (x_8:ByteArray) (t2_0:Int) (t2_1:Int) (t2_2:Int) (t2_3:Int) (t2_4:Int) (t2_5:Int) (t2_6:Int) (t2_7:ByteArray) (b2:yA):Bool×zkq:=zJ (zvZ zR) default n ((),(),t11,t12,()) ((x_0,x_1,x_2,(),x_3,x_4,x_5,x_6,x_7,x_8,()),(t2_0,t2_1,t2_2,(),t2_3,(),t2_4,t2_5,t2_6,t2_7,()),b2,())
def zD2 (r:zkq):LTree ty:=.done (.exit 0) [.ptr 200 0,.ptr 201 0] [.box ([.lit (.int .i64 r.1),.lit (.int .i64 r.2.1),.lit (.int .i64 r.2.2.1),.own 202,.lit (.int .i64 r.2.2.2.1),.sl 100 r.2.2.2.2.1,.lit (.int .i64 r.2.2.2.2.2.1),.lit (.int .i64 r.2.2.2.2.2.2.1),.lit (.int .i64 r.2.2.2.2.2.2.2.1),.lit (.string r.2.2.2.2.2.2.2.2.1)]) false,.box ([.lit (.int .i64 r.2.2.2.2.2.2.2.2.2.1),.lit (.int .i64 r.2.2.2.2.2.2.2.2.2.2.1),.lit (.int .i64 r.2.2.2.2.2.2.2.2.2.2.2.1),.lit (.slice none 0 0),.lit (.int .i64 r.2.2.2.2.2.2.2.2.2.2.2.2.1),.lit (.slice none 0 0),.lit (.int .i64 r.2.2.2.2.2.2.2.2.2.2.2.2.2.1),.lit (.int .i64 r.2.2.2.2.2.2.2.2.2.2.2.2.2.2.1),.lit (.int .i64 r.2.2.2.2.2.2.2.2.2.2.2.2.2.2.2.1),.lit (.string r.2.2.2.2.2.2.2.2.2.2.2.2.2.2.2.2.1)]) false,.arr 23 r.2.2.2.2.2.2.2.2.2.2.2.2.2.2.2.2.2 false]
def zFW:LL ty zcn:=za (zdC 200 0) (za (zdC 201 0) (za lI64 (za lI64 zn)))
def zFM:BL ty zgI:=bBox (za (lInt .i64) (za (lInt .i64) (za (lInt .i64) (za (lOwn 202) (za (lInt .i64) (za (lSl 100) (za (lInt .i64) (za (lInt .i64) (za (lInt .i64) (za lStr zn)))))))))) false (bBox (za (lInt .i64) (za (lInt .i64) (za (lInt .i64) (za lNil (za (lInt .i64) (za lNil (za (lInt .i64) (za (lInt .i64) (za (lInt .i64) (za lStr zn)))))))))) false (bArr 23 false (bNil)))
def zFa (zR:yC→Bool×yC) (t32:Int) (t33:Int) (x_0:Int) (x_1:Int) (x_2:Int) (x_3:Int) (x_4:Int) (x_5:Int) (x_6:Int) (x_7:ByteArray) (t2_0:Int) (t2_1:Int) (t2_2:Int) (t2_3:Int) (t2_4:Int) (t2_5:Int) (t2_6:Int) (t2_7:ByteArray) (b2:yA) (b3:yE):Wy zcn zgV zj5:=.i (decide (t33<t32)) (.i (decide (0≤t33)&&decide (t33<Int.ofNat b3.length)) (.bn (zR (b3.getD t33.toNat default).Ann) fun r2=>.i (decide (0≤t33)&&decide (t33<Int.ofNat b3.length)) (.i (decide (t33.toNat<b3.length)) (.h ((),(),t32,(IntKind.i64.wrap (t33+1)),()) ((x_0,x_1,x_2,(),x_3,(),x_4,x_5,x_6,x_7,()),(t2_0,t2_1,t2_2,(),t2_3,(),t2_4,t2_5,t2_6,t2_7,()),b2,(b3.set t33.toNat (WeightedOf.mk (b3.getD t33.toNat default).Value r2)),())) .d) .d) .d) (.k (x_0,x_1,x_2,x_3,x_4,x_5,x_6,x_7,t2_0,t2_1,t2_2,t2_3,t2_4,t2_5,t2_6,t2_7,b2,b3))
def zvM (zR:yC→Bool×yC) (x:zcn) (y:zgV):Wy zcn zgV zj5:=zFa zR x.2.2.1 x.2.2.2.1 y.1.1 y.1.2.1 y.1.2.2.1 y.1.2.2.2.2.1 y.1.2.2.2.2.2.2.1 y.1.2.2.2.2.2.2.2.1 y.1.2.2.2.2.2.2.2.2.1 y.1.2.2.2.2.2.2.2.2.2.1 y.2.1.1 y.2.1.2.1 y.2.1.2.2.1 y.2.1.2.2.2.2.1 y.2.1.2.2.2.2.2.2.1 y.2.1.2.2.2.2.2.2.2.1 y.2.1.2.2.2.2.2.2.2.2.1 y.2.1.2.2.2.2.2.2.2.2.2.1 y.2.2.1 y.2.2.2.1
def zFE (zR:yC→Bool×yC) (n:Nat) (t32:Int) (t33:Int) (x_0:Int) (x_1:Int) (x_2:Int) (x_3:Int) (x_4:Int) (x_5:Int) (x_6:Int) (x_7:ByteArray) (t2_0:Int) (t2_1:Int) (t2_2:Int) (t2_3:Int) (t2_4:Int) (t2_5:Int) (t2_6:Int) (t2_7:ByteArray) (b2:yA) (b3:yE):Bool×zj5:=zJ (zvM zR) default n ((),(),t32,t33,()) ((x_0,x_1,x_2,(),x_3,(),x_4,x_5,x_6,x_7,()),(t2_0,t2_1,t2_2,(),t2_3,(),t2_4,t2_5,t2_6,t2_7,()),b2,b3,())
def zDN (r:zj5):LTree ty:=.done (.exit 2) [.ptr 200 0,.ptr 201 0] [.box ([.lit (.int .i64 r.1),.lit (.int .i64 r.2.1),.lit (.int .i64 r.2.2.1),.own 202,.lit (.int .i64 r.2.2.2.1),.own 203,.lit (.int .i64 r.2.2.2.2.1),.lit (.int .i64 r.2.2.2.2.2.1),.lit (.int .i64 r.2.2.2.2.2.2.1),.lit (.string r.2.2.2.2.2.2.2.1)]) false,.box ([.lit (.int .i64 r.2.2.2.2.2.2.2.2.1),.lit (.int .i64 r.2.2.2.2.2.2.2.2.2.1),.lit (.int .i64 r.2.2.2.2.2.2.2.2.2.2.1),.lit (.slice none 0 0),.lit (.int .i64 r.2.2.2.2.2.2.2.2.2.2.2.1),.lit (.slice none 0 0),.lit (.int .i64 r.2.2.2.2.2.2.2.2.2.2.2.2.1),.lit (.int .i64 r.2.2.2.2.2.2.2.2.2.2.2.2.2.1),.lit (.int .i64 r.2.2.2.2.2.2.2.2.2.2.2.2.2.2.1),.lit (.string r.2.2.2.2.2.2.2.2.2.2.2.2.2.2.2.1)]) false,.arr 23 r.2.2.2.2.2.2.2.2.2.2.2.2.2.2.2.2.1 false,.arr 100 r.2.2.2.2.2.2.2.2.2.2.2.2.2.2.2.2.2 false]
def zFn:BL ty zgV:=bBox (za (lInt .i64) (za (lInt .i64) (za (lInt .i64) (za (lOwn 202) (za (lInt .i64) (za (lOwn 203) (za (lInt .i64) (za (lInt .i64) (za (lInt .i64) (za lStr zn)))))))))) false (bBox (za (lInt .i64) (za (lInt .i64) (za (lInt .i64) (za lNil (za (lInt .i64) (za lNil (za (lInt .i64) (za (lInt .i64) (za (lInt .i64) (za lStr zn)))))))))) false (bArr 23 false (bArr 100 false (bNil))))
def zEu (x:zcn) (y:zgI):Nat:=(Int.toNat x.2.2.1+Int.toNat x.2.2.2.1+Int.toNat y.1.1+Int.toNat y.1.2.1+Int.toNat y.1.2.2.1+Int.toNat y.1.2.2.2.2.1+y.1.2.2.2.2.2.1.length+Int.toNat y.1.2.2.2.2.2.2.1+Int.toNat y.1.2.2.2.2.2.2.2.1+Int.toNat y.1.2.2.2.2.2.2.2.2.1+y.1.2.2.2.2.2.2.2.2.2.1.size+Int.toNat y.2.1.1+Int.toNat y.2.1.2.1+Int.toNat y.2.1.2.2.1+Int.toNat y.2.1.2.2.2.2.1+Int.toNat y.2.1.2.2.2.2.2.2.1+Int.toNat y.2.1.2.2.2.2.2.2.2.1+Int.toNat y.2.1.2.2.2.2.2.2.2.2.1+y.2.1.2.2.2.2.2.2.2.2.2.1.size+y.2.2.1.length+1)
def zEm (x:zcn) (y:zgV):Nat:=(Int.toNat x.2.2.1+Int.toNat x.2.2.2.1+Int.toNat y.1.1+Int.toNat y.1.2.1+Int.toNat y.1.2.2.1+Int.toNat y.1.2.2.2.2.1+Int.toNat y.1.2.2.2.2.2.2.1+Int.toNat y.1.2.2.2.2.2.2.2.1+Int.toNat y.1.2.2.2.2.2.2.2.2.1+y.1.2.2.2.2.2.2.2.2.2.1.size+Int.toNat y.2.1.1+Int.toNat y.2.1.2.1+Int.toNat y.2.1.2.2.1+Int.toNat y.2.1.2.2.2.2.1+Int.toNat y.2.1.2.2.2.2.2.2.1+Int.toNat y.2.1.2.2.2.2.2.2.2.1+Int.toNat y.2.1.2.2.2.2.2.2.2.2.1+y.2.1.2.2.2.2.2.2.2.2.2.1.size+y.2.2.1.length+y.2.2.2.1.length+1)
def zmQ (zR:yC→Bool×yC):Cx ty:=mkCx base 50 [(87,(zle zR)),(181,zg8),(182,ziz)] [] [(3,(kpL [1,2,11,12])),(9,(kpL [1,2,32,33]))] [(3,1,(kpL [1,2])),(9,3,(kpL [1,2]))] [(3,spW zFW zFM (zvZ zR) default zD2 zEu),(9,spW zFW zFn (zvM zR) default zDN zEm)] []
theorem zEd (zR:yC→Bool×yC):zI (zmQ zR) (lp (body Tryz.f151) 0):=zt (id:=3) (hl:=rfl)
theorem zEK (zR:yC→Bool×yC):zI (zmQ zR) (lp (body Tryz.f151) 1):=zt (id:=9) (hl:=rfl)
def zHp (zR:yC→Bool×yC) (x_:Atom):Wy0 (Atom):=.bn (zeF x_.Args) fun r7=>.bn (zFt zR ((Int.ofNat r7.length).toNat +Int.toNat 0+x_.Kind.toNat +x_.Row.Table.toNat +x_.Row.Seq.toNat +x_.Func.toNat +x_.Items.length+x_.Op.toNat +x_.Bound.Kind.toNat +x_.Bound.Int.toNat +x_.Bound.Text.size+Int.toNat 0+Int.toNat 0+Int.toNat 0+Int.toNat 0+Int.toNat 0+Int.toNat 0+Int.toNat 0+(ByteArray.mk #[]).size+r7.length+1) (Int.ofNat r7.length) 0 x_.Kind x_.Row.Table x_.Row.Seq x_.Func x_.Items x_.Op x_.Bound.Kind x_.Bound.Int x_.Bound.Text 0 0 0 0 0 0 0 (ByteArray.mk #[]) r7) fun r6=>.bn (zfD r6.2.2.2.2.1) fun r5=>.bn (zFE zR ((Int.ofNat r5.length).toNat +Int.toNat 0+r6.1.toNat +r6.2.1.toNat +r6.2.2.1.toNat +r6.2.2.2.1.toNat +r6.2.2.2.2.2.1.toNat +r6.2.2.2.2.2.2.1.toNat +r6.2.2.2.2.2.2.2.1.toNat +r6.2.2.2.2.2.2.2.2.1.size+r6.2.2.2.2.2.2.2.2.2.1.toNat +r6.2.2.2.2.2.2.2.2.2.2.1.toNat +r6.2.2.2.2.2.2.2.2.2.2.2.1.toNat +r6.2.2.2.2.2.2.2.2.2.2.2.2.1.toNat +r6.2.2.2.2.2.2.2.2.2.2.2.2.2.1.toNat +r6.2.2.2.2.2.2.2.2.2.2.2.2.2.2.1.toNat +r6.2.2.2.2.2.2.2.2.2.2.2.2.2.2.2.1.toNat +r6.2.2.2.2.2.2.2.2.2.2.2.2.2.2.2.2.1.size+r6.2.2.2.2.2.2.2.2.2.2.2.2.2.2.2.2.2.length+r5.length+1) (Int.ofNat r5.length) 0 r6.1 r6.2.1 r6.2.2.1 r6.2.2.2.1 r6.2.2.2.2.2.1 r6.2.2.2.2.2.2.1 r6.2.2.2.2.2.2.2.1 r6.2.2.2.2.2.2.2.2.1 r6.2.2.2.2.2.2.2.2.2.1 r6.2.2.2.2.2.2.2.2.2.2.1 r6.2.2.2.2.2.2.2.2.2.2.2.1 r6.2.2.2.2.2.2.2.2.2.2.2.2.1 r6.2.2.2.2.2.2.2.2.2.2.2.2.2.1 r6.2.2.2.2.2.2.2.2.2.2.2.2.2.2.1 r6.2.2.2.2.2.2.2.2.2.2.2.2.2.2.2.1 r6.2.2.2.2.2.2.2.2.2.2.2.2.2.2.2.2.1 r6.2.2.2.2.2.2.2.2.2.2.2.2.2.2.2.2.2 r5) fun r4=>.k (⟨r4.1,(⟨r4.2.1,r4.2.2.1⟩:RowID),r4.2.2.2.2.2.2.2.2.2.2.2.2.2.2.2.2.1,r4.2.2.2.1,r4.2.2.2.2.2.2.2.2.2.2.2.2.2.2.2.2.2,r4.2.2.2.2.1,(⟨r4.2.2.2.2.2.1,r4.2.2.2.2.2.2.1,r4.2.2.2.2.2.2.2.1⟩:Value)⟩:Atom)
def zyE (zR:yC→Bool×yC) (x_:Atom):Bool×Atom:=(zHp zR x_).fin default
theorem zBP (zR:yC→Bool×yC) (zMN:SdP 87 (zle zR)):SdP 151 (zkY (zyE zR)):=
 sW (cx':=(zmQ zR)) zq zi zk (zj ⟨zMN,zoy,zrv,trivial⟩) Tryz.call151 Tryz.func151 (c:=body Tryz.f151) (lOK (aC (zEd zR) (aC (zEK zR) aN)))
def zG1:Nat→(yC→Bool×yC)×(Atom→Bool×Atom)
 | 0=>(fun _=>(false,default),fun _=>(false,default))
 | n+1=>(zCc ((zG1 n).2),zyE ((zG1 n).1))
def zCu (n:Nat):yC→Bool×yC:=(zG1 n).1
def zKg (n:Nat):Atom→Bool×Atom:=(zG1 n).2
theorem zSN:∀ n,SdP 87 (zle (zCu n))∧SdP 151 (zkY (zKg n))
 | 0=>⟨zY Tryz.call87 (fun _=>rfl),zY Tryz.call151 (fun _=>rfl)⟩
 | n+1=>by
  have ih:=zSN n;exact ⟨zHa _ (ih.2),zBP _ (ih.1)⟩
def zh9:yC→Bool×yC:=zCu 1000
def annotation_copied_spec:Ab.Spec ty:=zle zh9
theorem zhH:SdP 87 annotation_copied_spec:=(zSN 1000).1
def zNn:Cx ty:=mkCx base 9 [(62,zsw),(87,annotation_copied_spec)] [] [] [] [] []
def zO2 (a:yC):Wy0 (yC×Int):=.bn (zkE a) fun r1=>.i (!r1) (.k ([],6)) (.bn (zh9 a) fun r0=>.k (r0,0))
def zfi (a:yC):Bool×(yC×Int):=(zO2 a).fin default
def zef:Ab.Spec ty:=zh z1A fun x=>((zfi x.1).1,zLE (zfi x.1).2)
theorem zeU:SdP 70 zef:=
 sW (cx':=zNn) zq zi zk (zj ⟨zyt,zhH,trivial⟩) Tryz.call70 Tryz.func70 (c:=body Tryz.f70) (lOK aN) (sg:=⟨[.own 28,.pure],[]⟩)
def zwl:Cx ty:=mkCx base 27 [] [] [] [] [] []
def zwX (n_:Int):Wy0 (yC):=.i (decide (n_<0)) .d (.i (decide (IntKind.i64.wrap (n_ - IntKind.i64.wrap (0 - 0))>0)) (.i (decide (0<IntKind.i64.wrap (n_ - IntKind.i64.wrap (0 - 0)))&&(decide (IntKind.i64.wrap (n_ - IntKind.i64.wrap (0 - 0))*Int.ofNat 32≤Int.ofNat zbk)&&(decide (IntKind.i64.wrap (n_ - IntKind.i64.wrap (0 - 0))≤Int.ofNat zbk)&& !Nat.beq 2 0))) (.k (List.take (Int.toNat 0 - Int.toNat 0) (List.replicate (IntKind.i64.wrap (n_ - IntKind.i64.wrap (0 - 0))).toNat (TermOf.mk 0 [])))) .d) (.k []))
def zhD (n_:Int):Bool×yC:=(zwX n_).fin default
def zw9:AL base (Unit×Int×Unit):=zd (ze z8q) (zd (ze vI64) aNil)
def zkp:Ab.Spec ty:=zh zw9 fun x=>((zhD x.2.1).1,zFD (zhD x.2.1).2)
theorem zt0:SdP 140 zkp:=
 sW (cx':=zwl) zq zi zk (zj trivial) Tryz.call140 Tryz.func140 (c:=body Tryz.f140) (lOK aN) (sg:=⟨[.own 28],[]⟩)
abbrev zdw:=yA×Int×yA×Int×Int×Unit
abbrev zem:=yA×Int
abbrev zdv:=Unit×yA×Int×Int×Unit
abbrev zdr:=yC×Unit
def zuZ (slices:yA) (size:Int) (t9:yA) (t10:Int) (t11:Int):Wy zdw (Unit) zem:=.i (decide (t11<t10)) (.i (decide (0≤t11)&&decide (t11<Int.ofNat t9.length)) (.i (decide (IntKind.i64.wrap (size+Int.ofNat (List.length (t9.getD t11.toNat default)))<0)) .d (.h (slices,(IntKind.i64.wrap (size+Int.ofNat (List.length (t9.getD t11.toNat default)))),t9,t10,(IntKind.i64.wrap (t11+1)),()) ())) .d) (.k (slices,size))
def zkl (x:zdw) (y:Unit):Wy zdw (Unit) zem:=zuZ x.1 x.2.1 x.2.2.1 x.2.2.2.1 x.2.2.2.2.1
def zuW (n:Nat) (slices:yA) (size:Int) (t9:yA) (t10:Int) (t11:Int):Bool×zem:=zJ (zkl) default n (slices,size,t9,t10,t11,()) ()
def ztX (r:zem):LTree ty:=.done (.exit 0) [.sl 23 r.1,.lit (.int .i64 r.2)] []
def zvf:LL ty zdw:=za (lSl 23) (za lI64 (za (lSl 23) (za lI64 (za lI64 zn))))
def zub (t25:yA) (t26:Int) (t27:Int) (newslice:yC):Wy zdv zdr (yC):=.i (decide (t27<t26)) (.i (decide (0≤t27)&&decide (t27<Int.ofNat t25.length)) (.i (decide ((newslice.length+List.length (t25.getD t27.toNat default))*32≤zbk)) (.h ((),t25,t26,(IntKind.i64.wrap (t27+1)),()) ((newslice++t25.getD t27.toNat default),())) .d) .d) (.k newslice)
def zjR (x:zdv) (y:zdr):Wy zdv zdr (yC):=zub x.2.1 x.2.2.1 x.2.2.2.1 y.1
def zt3 (n:Nat) (t25:yA) (t26:Int) (t27:Int) (newslice:yC):Bool×yC:=zJ (zjR) default n ((),t25,t26,t27,()) (newslice,())
def zty (r:yC):LTree ty:=.done (.exit 2) [.own 144] [.arr 28 r false]
def zt2:LL ty zdv:=za (lOwn 144) (za (lSl 23) (za lI64 (za lI64 zn)))
def zt5:BL ty zdr:=bArr 28 false (bNil)
def zt4 (x:zdw) (y:Unit):Nat:=(x.1.length+Int.toNat x.2.1+x.2.2.1.length+Int.toNat x.2.2.2.1+Int.toNat x.2.2.2.2.1+1)
def ztG (x:zdv) (y:zdr):Nat:=(x.2.1.length+Int.toNat x.2.2.1+Int.toNat x.2.2.2.1+y.1.length+1)
def zfr:Cx ty:=mkCx base 36 [(140,zkp)] [] [(3,(kpL [0,3,9,10,11])),(11,(kpL [6,25,26,27]))] [(3,1,(kpL [0,3])),(11,3,(kpL [6]))] [(3,spW zvf zSV (zkl) default ztX zt4),(11,spW zt2 zt5 (zjR) default zty ztG)] [140]
theorem zug:zI zfr (lp (body Tryz.f72) 0):=zt (id:=3) (hl:=rfl)
theorem zts:zI zfr (lp (body Tryz.f72) 1):=zt (id:=11) (hl:=rfl)
def zvK (slices:yA):Wy0 (yC):=.bn (zuW (slices.length+Int.toNat 0+slices.length+(Int.ofNat slices.length).toNat +Int.toNat 0+1) slices 0 slices (Int.ofNat slices.length) 0) fun r2=>.bn (zhD r2.2) fun r1=>.bn (zt3 (r2.1.length+(Int.ofNat r2.1.length).toNat +Int.toNat 0+r1.length+1) r2.1 (Int.ofNat r2.1.length) 0 r1) fun r0=>.k r0
def zgm (slices:yA):Bool×yC:=(zvK slices).fin default
def zvV:AL base (yA×Unit):=zd (ze (vSl 23)) aNil
def zi6:Ab.Spec ty:=zh zvV fun x=>((zgm x.1).1,zFD (zgm x.1).2)
theorem zsT:SdP 72 zi6:=
 sW (cx':=zfr) zq zi zk (zj ⟨zt0,trivial⟩) Tryz.call72 Tryz.func72 (c:=body Tryz.f72) (lOK (aC zug (aC zts aN))) (sg:=⟨[.own 28],[]⟩)
def zVa:Cx ty:=mkCx base0 22 [(20,annotation_Valid_spec),(70,zef),(71,zq5),(72,zi6)] [] [] [] [] []
def zXl (a:yC) (b:yC):Wy0 (yC×Int):=.bn (zce a) fun r4=>.i (!r4) (.k ([],1)) (.bn (zce b) fun r3=>.i (!r3) (.k ([],1)) (.bn (zgm [a,b]) fun r2=>.bn (zr5 r2) fun r1=>.bn (zfi r1) fun r0=>.k (r0.1,r0.2)))
def zDg (a:yC) (b:yC):Bool×(yC×Int):=(zXl a b).fin default
def zWE:AL base0 (yC×yC×Unit):=zd (ze (vSl 28)) (zd (ze (vSl 28)) aNil)
def zCq:Ab.Spec ty:=zh zWE fun x=>((zDg x.1 x.2.1).1,zLE (zDg x.1 x.2.1).2)
theorem zOi:Sound Tryz.prog base0 23 zCq:=
 sW (cx':=zVa) zq zh8 zk (zj ⟨zco.nodr,zeU.nodr,zxQ,zsT.nodr,trivial⟩) Tryz.call23 Tryz.func23 (c:=body Tryz.f23) (lOK aN) (sg:=⟨[.own 28,.pure],[]⟩)
def zQ7:Cx ty:=mkCx base 9 [] [] [] [] [] []
def zSB (n_:Int):Wy0 (yC):=.i (decide (n_<1)) (.k []) (.k [TermOf.mk (if 1152921504606846976<n_ then 1152921504606846976 else n_) []])
def zz3 (n_:Int):Bool×yC:=(zSB n_).fin default
def zAj:Ab.Spec ty:=zh zU2 fun x=>((zz3 x.1).1,zFD (zz3 x.1).2)
theorem zKU:SdP 149 zAj:=
 sW (cx':=zQ7) zq zi zk (zj trivial) Tryz.call149 Tryz.func149 (c:=body Tryz.f149) (lOK aN) (sg:=⟨[.own 28],[]⟩)
def zw7:Cx ty:=mkCx base 27 [] [] [] [] [] []
def zxn (n_:Int):Wy0 (yD):=.i (decide (n_<0)) .d (.i (decide (IntKind.i64.wrap (n_ - IntKind.i64.wrap (0 - 0))>0)) (.i (decide (0<IntKind.i64.wrap (n_ - IntKind.i64.wrap (0 - 0)))&&(decide (IntKind.i64.wrap (n_ - IntKind.i64.wrap (0 - 0))*Int.ofNat 128≤Int.ofNat zbk)&&(decide (IntKind.i64.wrap (n_ - IntKind.i64.wrap (0 - 0))≤Int.ofNat zbk)&& !Nat.beq 11 0))) (.k (List.take (Int.toNat 0 - Int.toNat 0) (List.replicate (IntKind.i64.wrap (n_ - IntKind.i64.wrap (0 - 0))).toNat (FactorOf.mk (Atom.mk 0 (RowID.mk 0 0) [] 0 [] 0 (Value.mk 0 0 (ByteArray.mk #[]))) 0)))) .d) (.k []))
def zh6 (n_:Int):Bool×yD:=(zxn n_).fin default
def zwp (r:yD):ARes ty:=⟨[.own 69 r],[]⟩
def zkI:Ab.Spec ty:=zh zw9 fun x=>((zh6 x.2.1).1,zwp (zh6 x.2.1).2)
theorem zu0:SdP 220 zkI:=
 sW (cx':=zw7) zq zi zk (zj trivial) Tryz.call220 Tryz.func220 (c:=body Tryz.f220) (lOK aN) (sg:=⟨[.own 69],[]⟩)
abbrev zdJ:=List (yD)×Int×List (yD)×Int×Int×Unit
abbrev zeD:=List (yD)×Int
abbrev zdE:=Unit×List (yD)×Int×Int×Unit
abbrev zdH:=yD×Unit
def zvU (slices:List (yD)) (size:Int) (t9:List (yD)) (t10:Int) (t11:Int):Wy zdJ (Unit) zeD:=.i (decide (t11<t10)) (.i (decide (0≤t11)&&decide (t11<Int.ofNat t9.length)) (.i (decide (IntKind.i64.wrap (size+Int.ofNat (List.length (t9.getD t11.toNat default)))<0)) .d (.h (slices,(IntKind.i64.wrap (size+Int.ofNat (List.length (t9.getD t11.toNat default)))),t9,t10,(IntKind.i64.wrap (t11+1)),()) ())) .d) (.k (slices,size))
def zkH (x:zdJ) (y:Unit):Wy zdJ (Unit) zeD:=zvU x.1 x.2.1 x.2.2.1 x.2.2.2.1 x.2.2.2.2.1
def zvL (n:Nat) (slices:List (yD)) (size:Int) (t9:List (yD)) (t10:Int) (t11:Int):Bool×zeD:=zJ (zkH) default n (slices,size,t9,t10,t11,()) ()
def zu4 (r:zeD):LTree ty:=.done (.exit 0) [.sl 26 r.1,.lit (.int .i64 r.2)] []
def zvW:LL ty zdJ:=za (lSl 26) (za lI64 (za (lSl 26) (za lI64 (za lI64 zn))))
def zuQ (t25:List (yD)) (t26:Int) (t27:Int) (newslice:yD):Wy zdE zdH (yD):=.i (decide (t27<t26)) (.i (decide (0≤t27)&&decide (t27<Int.ofNat t25.length)) (.i (decide ((newslice.length+List.length (t25.getD t27.toNat default))*128≤zbk)) (.h ((),t25,t26,(IntKind.i64.wrap (t27+1)),()) ((newslice++t25.getD t27.toNat default),())) .d) .d) (.k newslice)
def zkc (x:zdE) (y:zdH):Wy zdE zdH (yD):=zuQ x.2.1 x.2.2.1 x.2.2.2.1 y.1
def zuX (n:Nat) (t25:List (yD)) (t26:Int) (t27:Int) (newslice:yD):Bool×yD:=zJ (zkc) default n ((),t25,t26,t27,()) (newslice,())
def zt1 (r:yD):LTree ty:=.done (.exit 2) [.own 144] [.arr 69 r false]
def zvb:LL ty zdE:=za (lOwn 144) (za (lSl 26) (za lI64 (za lI64 zn)))
def zuP:BL ty zdH:=bArr 69 false (bNil)
def zvh (x:zdJ) (y:Unit):Nat:=(x.1.length+Int.toNat x.2.1+x.2.2.1.length+Int.toNat x.2.2.2.1+Int.toNat x.2.2.2.2.1+1)
def zue (x:zdE) (y:zdH):Nat:=(x.2.1.length+Int.toNat x.2.2.1+Int.toNat x.2.2.2.1+y.1.length+1)
def zfy:Cx ty:=mkCx base 36 [(220,zkI)] [] [(3,(kpL [0,3,9,10,11])),(11,(kpL [6,25,26,27]))] [(3,1,(kpL [0,3])),(11,3,(kpL [6]))] [(3,spW zvW zSV (zkH) default zu4 zvh),(11,spW zvb zuP (zkc) default zt1 zue)] [220]
theorem zu8:zI zfy (lp (body Tryz.f183) 0):=zt (id:=3) (hl:=rfl)
theorem zt7:zI zfy (lp (body Tryz.f183) 1):=zt (id:=11) (hl:=rfl)
def zwt (slices:List (yD)):Wy0 (yD):=.bn (zvL (slices.length+Int.toNat 0+slices.length+(Int.ofNat slices.length).toNat +Int.toNat 0+1) slices 0 slices (Int.ofNat slices.length) 0) fun r2=>.bn (zh6 r2.2) fun r1=>.bn (zuX (r2.1.length+(Int.ofNat r2.1.length).toNat +Int.toNat 0+r1.length+1) r2.1 (Int.ofNat r2.1.length) 0 r1) fun r0=>.k r0
def zg5 (slices:List (yD)):Bool×yD:=(zwt slices).fin default
def zwo:AL base (List (yD)×Unit):=zd (ze (vSl 26)) aNil
def zjP:Ab.Spec ty:=zh zwo fun x=>((zg5 x.1).1,zwp (zg5 x.1).2)
theorem ztm:SdP 183 zjP:=
 sW (cx':=zfy) zq zi zk (zj ⟨zu0,trivial⟩) Tryz.call183 Tryz.func183 (c:=body Tryz.f183) (lOK (aC zu8 (aC zt7 aN))) (sg:=⟨[.own 69],[]⟩)
abbrev zmo:=yD×yD×Unit×Unit
abbrev zlR:=yD×Unit
abbrev zrP:=yD×yD×yD
def zSC (a:yD) (b:yD) (out_:yD):Wy zmo zlR zrP:=.i (decide (Int.ofNat a.length>0)) (.i (decide (Int.ofNat b.length>0)) (.i (decide ((0:Int)≤(0:Int))&&decide (0<Int.ofNat a.length)) (.i (decide ((0:Int)≤(0:Int))&&decide (0<Int.ofNat b.length)) (.bn (zhM (Atom.mk (a.getD (Int.toNat 0) default).Atom.Kind (a.getD (Int.toNat 0) default).Atom.Row (a.getD (Int.toNat 0) default).Atom.Args (a.getD (Int.toNat 0) default).Atom.Func (a.getD (Int.toNat 0) default).Atom.Items (a.getD (Int.toNat 0) default).Atom.Op (a.getD (Int.toNat 0) default).Atom.Bound) (Atom.mk (b.getD (Int.toNat 0) default).Atom.Kind (b.getD (Int.toNat 0) default).Atom.Row (b.getD (Int.toNat 0) default).Atom.Args (b.getD (Int.toNat 0) default).Atom.Func (b.getD (Int.toNat 0) default).Atom.Items (b.getD (Int.toNat 0) default).Atom.Op (b.getD (Int.toNat 0) default).Atom.Bound)) fun r1=>.i (decide (r1<0)) (.i (decide ((0:Int)≤(0:Int))&&decide (0<Int.ofNat a.length)) (.i (decide ((out_.length+[FactorOf.mk (Atom.mk (a.getD (Int.toNat 0) default).Atom.Kind (a.getD (Int.toNat 0) default).Atom.Row (a.getD (Int.toNat 0) default).Atom.Args (a.getD (Int.toNat 0) default).Atom.Func (a.getD (Int.toNat 0) default).Atom.Items (a.getD (Int.toNat 0) default).Atom.Op (a.getD (Int.toNat 0) default).Atom.Bound) (a.getD (Int.toNat 0) default).Exp].length)*128≤zbk)) (.i (decide ((0:Int)≤(1:Int))&&decide (1≤Int.ofNat a.length)&&decide (Int.ofNat a.length≤Int.ofNat a.length)) (.h ((List.take ((Int.ofNat a.length).toNat - Int.toNat 1) (List.drop (Int.toNat 1) a)),b,(),()) ((out_++[FactorOf.mk (Atom.mk (a.getD (Int.toNat 0) default).Atom.Kind (a.getD (Int.toNat 0) default).Atom.Row (a.getD (Int.toNat 0) default).Atom.Args (a.getD (Int.toNat 0) default).Atom.Func (a.getD (Int.toNat 0) default).Atom.Items (a.getD (Int.toNat 0) default).Atom.Op (a.getD (Int.toNat 0) default).Atom.Bound) (a.getD (Int.toNat 0) default).Exp]),())) .d) .d) .d) (.i (decide (r1>0)) (.i (decide ((0:Int)≤(0:Int))&&decide (0<Int.ofNat b.length)) (.i (decide ((out_.length+[FactorOf.mk (Atom.mk (b.getD (Int.toNat 0) default).Atom.Kind (b.getD (Int.toNat 0) default).Atom.Row (b.getD (Int.toNat 0) default).Atom.Args (b.getD (Int.toNat 0) default).Atom.Func (b.getD (Int.toNat 0) default).Atom.Items (b.getD (Int.toNat 0) default).Atom.Op (b.getD (Int.toNat 0) default).Atom.Bound) (b.getD (Int.toNat 0) default).Exp].length)*128≤zbk)) (.i (decide ((0:Int)≤(1:Int))&&decide (1≤Int.ofNat b.length)&&decide (Int.ofNat b.length≤Int.ofNat b.length)) (.h (a,(List.take ((Int.ofNat b.length).toNat - Int.toNat 1) (List.drop (Int.toNat 1) b)),(),()) ((out_++[FactorOf.mk (Atom.mk (b.getD (Int.toNat 0) default).Atom.Kind (b.getD (Int.toNat 0) default).Atom.Row (b.getD (Int.toNat 0) default).Atom.Args (b.getD (Int.toNat 0) default).Atom.Func (b.getD (Int.toNat 0) default).Atom.Items (b.getD (Int.toNat 0) default).Atom.Op (b.getD (Int.toNat 0) default).Atom.Bound) (b.getD (Int.toNat 0) default).Exp]),())) .d) .d) .d) (.i (decide ((0:Int)≤(0:Int))&&decide (0<Int.ofNat a.length)) (.bn (zeZ (Atom.mk (a.getD (Int.toNat 0) default).Atom.Kind (a.getD (Int.toNat 0) default).Atom.Row (a.getD (Int.toNat 0) default).Atom.Args (a.getD (Int.toNat 0) default).Atom.Func (a.getD (Int.toNat 0) default).Atom.Items (a.getD (Int.toNat 0) default).Atom.Op (a.getD (Int.toNat 0) default).Atom.Bound)) fun r0=>.i (!r0) (.i (decide ((0:Int)≤(0:Int))&&decide (0<Int.ofNat b.length)) (.i (decide ((out_.length+[FactorOf.mk (Atom.mk (a.getD (Int.toNat 0) default).Atom.Kind (a.getD (Int.toNat 0) default).Atom.Row (a.getD (Int.toNat 0) default).Atom.Args (a.getD (Int.toNat 0) default).Atom.Func (a.getD (Int.toNat 0) default).Atom.Items (a.getD (Int.toNat 0) default).Atom.Op (a.getD (Int.toNat 0) default).Atom.Bound) (IntKind.i64.wrap ((a.getD (Int.toNat 0) default).Exp+(b.getD (Int.toNat 0) default).Exp))].length)*128≤zbk)) (.i (decide ((0:Int)≤(1:Int))&&decide (1≤Int.ofNat a.length)&&decide (Int.ofNat a.length≤Int.ofNat a.length)) (.i (decide ((0:Int)≤(1:Int))&&decide (1≤Int.ofNat b.length)&&decide (Int.ofNat b.length≤Int.ofNat b.length)) (.h ((List.take ((Int.ofNat a.length).toNat - Int.toNat 1) (List.drop (Int.toNat 1) a)),(List.take ((Int.ofNat b.length).toNat - Int.toNat 1) (List.drop (Int.toNat 1) b)),(),()) ((out_++[FactorOf.mk (Atom.mk (a.getD (Int.toNat 0) default).Atom.Kind (a.getD (Int.toNat 0) default).Atom.Row (a.getD (Int.toNat 0) default).Atom.Args (a.getD (Int.toNat 0) default).Atom.Func (a.getD (Int.toNat 0) default).Atom.Items (a.getD (Int.toNat 0) default).Atom.Op (a.getD (Int.toNat 0) default).Atom.Bound) (IntKind.i64.wrap ((a.getD (Int.toNat 0) default).Exp+(b.getD (Int.toNat 0) default).Exp))]),())) .d) .d) .d) .d) (.i (decide ((out_.length+[FactorOf.mk (Atom.mk (a.getD (Int.toNat 0) default).Atom.Kind (a.getD (Int.toNat 0) default).Atom.Row (a.getD (Int.toNat 0) default).Atom.Args (a.getD (Int.toNat 0) default).Atom.Func (a.getD (Int.toNat 0) default).Atom.Items (a.getD (Int.toNat 0) default).Atom.Op (a.getD (Int.toNat 0) default).Atom.Bound) (a.getD (Int.toNat 0) default).Exp].length)*128≤zbk)) (.i (decide ((0:Int)≤(1:Int))&&decide (1≤Int.ofNat a.length)&&decide (Int.ofNat a.length≤Int.ofNat a.length)) (.i (decide ((0:Int)≤(1:Int))&&decide (1≤Int.ofNat b.length)&&decide (Int.ofNat b.length≤Int.ofNat b.length)) (.h ((List.take ((Int.ofNat a.length).toNat - Int.toNat 1) (List.drop (Int.toNat 1) a)),(List.take ((Int.ofNat b.length).toNat - Int.toNat 1) (List.drop (Int.toNat 1) b)),(),()) ((out_++[FactorOf.mk (Atom.mk (a.getD (Int.toNat 0) default).Atom.Kind (a.getD (Int.toNat 0) default).Atom.Row (a.getD (Int.toNat 0) default).Atom.Args (a.getD (Int.toNat 0) default).Atom.Func (a.getD (Int.toNat 0) default).Atom.Items (a.getD (Int.toNat 0) default).Atom.Op (a.getD (Int.toNat 0) default).Atom.Bound) (a.getD (Int.toNat 0) default).Exp]),())) .d) .d) .d)) .d))) .d) .d) (.k (a,b,out_))) (.k (a,b,out_))
def zEY (x:zmo) (y:zlR):Wy zmo zlR zrP:=zSC x.1 x.2.1 y.1
def zSj (n:Nat) (a:yD) (b:yD) (out_:yD):Bool×zrP:=zJ (zEY) default n (a,b,(),()) (out_,())
def zQZ (r:zrP):LTree ty:=.done (.exit 0) [.sl 69 r.1,.sl 69 r.2.1,.own 300] [.arr 69 r.2.2 false]
def zSx:LL ty zmo:=za (lSl 69) (za (lSl 69) (za (lOwn 300) zn))
def zTy:BL ty zlR:=bArr 69 false (bNil)
def zQz (x:zmo) (y:zlR):Nat:=(x.1.length+x.2.1.length+y.1.length+1)
def zEb:Cx ty:=mkCx base 75 [(64,ziR),(65,annotation_compareAtoms_spec),(183,zjP)] [] [(2,[(0,.keep),(1,.keep),(5,.own 69)])] [(2,1,(kpL [0,1,5]))] [(2,spW zSx zTy (zEY) default zQZ zQz)] []
theorem zQx:zI zEb (lp (body Tryz.f154) 0):=zt (id:=2) (hl:=rfl)
def zVJ (a:yD) (b:yD):Wy0 (yD):=.bn (zSj (a.length+b.length+0+1) a b []) fun r5=>.bn (zg5 [r5.2.2,r5.1,r5.2.1]) fun r4=>.k r4
def zBn (a:yD) (b:yD):Bool×yD:=(zVJ a b).fin default
def zBq:Ab.Spec ty:=zh zLu fun x=>((zBn x.1 x.2.1).1,zwp (zBn x.1 x.2.1).2)
theorem zMV:SdP 154 zBq:=
 sW (cx':=zEb) zq zi zk (zj ⟨zmg,zsQ,ztm,trivial⟩) Tryz.call154 Tryz.func154 (c:=body Tryz.f154) (lOK (aC zQx aN)) (sg:=⟨[.own 69],[]⟩)
def zQJ:Cx ty:=mkCx base 12 [] [] [] [] [] []
def zDP (a:Int) (b:Int):Wy0 (Int):=.i (!decide (b=0)) (.i (decide (a>IntKind.i64.wrap (Int.tdiv 1152921504606846976 b))) (.k 1152921504606846976) (.k (IntKind.i64.wrap (a*b)))) .d
def zpg (a:Int) (b:Int):Bool×Int:=(zDP a b).fin default
def zAl:Ab.Spec ty:=zh z0o fun x=>((zpg x.1 x.2.1).1,zVk (zpg x.1 x.2.1).2)
theorem zLr:SdP 153 zAl:=
 sW (cx':=zQJ) zq zi zk (zj trivial) Tryz.call153 Tryz.func153 (c:=body Tryz.f153) (lOK aN)
abbrev znD:=yC×Unit×Unit×yC×Int×Int×yC×Int×Int×Unit
abbrev zna:=yC×Term×Unit
abbrev zsY:=yC×yC×Int×Int×yC
abbrev zns:=yC×Unit×yC×Int×Int×Unit
abbrev znd:=yC×Unit
def zUp (b:yC) (t19:yC) (t20:Int) (t21:Int) (t25:yC) (t26:Int) (t27:Int) (terms:yC) (x_:Term):Wy znD zna zsY:=.i (decide (t27<t26)) (.i (decide (0≤t27)&&decide (t27<Int.ofNat t25.length)) (.bn (zpg x_.Coeff (t25.getD t27.toNat default).Coeff) fun r5=>.bn (zBn x_.Factors (t25.getD t27.toNat default).Factors) fun r4=>.i (decide ((terms.length+[TermOf.mk r5 r4].length)*32≤zbk)) (.h (b,(),(),t19,t20,t21,t25,t26,(IntKind.i64.wrap (t27+1)),()) ((terms++[TermOf.mk r5 r4]),x_,())) .d) .d) (.k (b,t19,t20,t21,terms))
def zGo (x:znD) (y:zna):Wy znD zna zsY:=zUp x.1 x.2.2.2.1 x.2.2.2.2.1 x.2.2.2.2.2.1 x.2.2.2.2.2.2.1 x.2.2.2.2.2.2.2.1 x.2.2.2.2.2.2.2.2.1 y.1 y.2.1
def zVx (n:Nat) (b:yC) (t19:yC) (t20:Int) (t21:Int) (t25:yC) (t26:Int) (t27:Int) (terms:yC) (x_:Term):Bool×zsY:=zJ (zGo) default n (b,(),(),t19,t20,t21,t25,t26,t27,()) (terms,x_,())
def zTP (r:zsY):LTree ty:=.done (.exit 2) [.sl 28 r.1,.own 208,.sl 28 r.2.1,.lit (.int .i64 r.2.2.1),.lit (.int .i64 r.2.2.2.1)] [.arr 28 r.2.2.2.2 false]
def zVe:LL ty znD:=za (lSl 28) (za (lOwn 208) (za (zdC 209 0) (za (lSl 28) (za lI64 (za lI64 (za (lSl 28) (za lI64 (za lI64 zn))))))))
def zUY:BL ty zna:=bArr 28 false (bBox (zd6 (fun x=>(⟨x.1,x.2.1⟩:Term)) (fun x=>(x.Coeff,x.Factors,())) (fun _=>rfl) (za (lInt .i64) (za (lSl 69) zn))) false (bNil))
def zVI (b:yC) (t19:yC) (t20:Int) (t21:Int) (terms:yC):Wy zns znd (yC):=.i (decide (t21<t20)) (.i (decide (0≤t21)&&decide (t21<Int.ofNat t19.length)) (.bn (zVx (b.length+t19.length+t20.toNat +t21.toNat +b.length+(Int.ofNat b.length).toNat +Int.toNat 0+terms.length+(t19.getD t21.toNat default).Factors.length+1) b t19 t20 t21 b (Int.ofNat b.length) 0 terms (t19.getD t21.toNat default)) fun r8=>.h ((r8.1),(),(r8.2.1),(r8.2.2.1),(IntKind.i64.wrap (r8.2.2.2.1+1)),()) ((r8.2.2.2.2),())) .d) (.k terms)
def zGn (x:zns) (y:znd):Wy zns znd (yC):=zVI x.1 x.2.2.1 x.2.2.2.1 x.2.2.2.2.1 y.1
def zVA (n:Nat) (b:yC) (t19:yC) (t20:Int) (t21:Int) (terms:yC):Bool×yC:=zJ (zGn) default n (b,(),t19,t20,t21,()) (terms,())
def zUn:LL ty zns:=za (lSl 28) (za (lOwn 208) (za (lSl 28) (za lI64 (za lI64 zn))))
def zVw:BL ty znd:=bArr 28 false (bNil)
def zSZ (x:znD) (y:zna):Nat:=(x.1.length+x.2.2.2.1.length+Int.toNat x.2.2.2.2.1+Int.toNat x.2.2.2.2.2.1+x.2.2.2.2.2.2.1.length+Int.toNat x.2.2.2.2.2.2.2.1+Int.toNat x.2.2.2.2.2.2.2.2.1+y.1.length+y.2.1.Factors.length+1)
def zRY (x:zns) (y:znd):Nat:=(x.1.length+x.2.2.1.length+Int.toNat x.2.2.2.1+Int.toNat x.2.2.2.2.1+y.1.length+1)
def zyX:Cx ty:=mkCx base0 52 [(20,annotation_Valid_spec),(70,zef),(71,zq5),(153,zAl),(154,zBq)] [] [(5,[(1,.keep),(6,.own 28),(19,.keep),(20,.keep),(21,.keep)]),(8,[(1,.keep),(6,.own 28),(8,.keep),(19,.keep),(20,.keep),(21,.keep),(25,.keep),(26,.keep),(27,.keep)])] [(5,1,(kpL [6])),(8,3,(kpL [1,6,19,20,21]))] [(8,spW zVe zUY (zGo) default zTP zSZ),(5,spW zUn zVw (zGn) default zLH zRY)] []
theorem zSP:zI zyX (lp (body Tryz.f92) 1):=zt (id:=8) (hl:=rfl)
theorem zR9:zI zyX (lp (body Tryz.f92) 0):=zt (id:=5) (hl:=rfl)
def zXe (a:yC) (b:yC):Wy0 (yC×Int):=.bn (zce a) fun r14=>.i (!r14) (.k ([],1)) (.bn (zce b) fun r13=>.i (!r13) (.k ([],1)) (.bn (zVA (b.length+a.length+(Int.ofNat a.length).toNat +Int.toNat 0+0+1) b a (Int.ofNat a.length) 0 []) fun r12=>.bn (zr5 r12) fun r11=>.bn (zfi r11) fun r10=>.k (r10.1,r10.2)))
def zDB (a:yC) (b:yC):Bool×(yC×Int):=(zXe a b).fin default
def zCm:Ab.Spec ty:=zh zWE fun x=>((zDB x.1 x.2.1).1,zLE (zDB x.1 x.2.1).2)
theorem zOb:Sound Tryz.prog base0 92 zCm:=
 sW (cx':=zyX) zq zh8 zk (zj ⟨zco.nodr,zeU.nodr,zxQ,zLr.nodr,zMV.nodr,trivial⟩) Tryz.call92 Tryz.func92 (c:=body Tryz.f92) (lOK (aC zR9 (aC zSP aN))) (sg:=⟨[.own 28,.pure],[]⟩)
def zBL:Cx ty:=mkCx base 8 [] [] [] [] [] []
def zBW (b:Binding) (p1:RowID):Wy0 (Bool):=.k (b.Row.Table==p1.Table&&(b.Row.Seq==p1.Seq&&true))
def zlV (b:Binding) (p1:RowID):Bool×Bool:=(zBW b p1).fin default
def zB7:AL base (Binding×RowID×Unit):=zd (ze (vAgg 51)) (zd (ze (zwI 49)) aNil)
def zi3:Ab.Spec ty:=zh zB7 fun x=>((zlV x.1 x.2.1).1,zY8 (zlV x.1 x.2.1).2)
theorem zos:SdP 86 zi3:=
 sW (cx':=zBL) zq zi zk (zj trivial) Tryz.call86 Tryz.func86 (c:=body Tryz.f86) (lOK aN)
def zPo:Cx ty:=mkCx base 8 [] [] [] [] [] []
def zQj (x_:Atom):Wy0 (yC):=.k [TermOf.mk 1 [FactorOf.mk (Atom.mk x_.Kind x_.Row x_.Args x_.Func x_.Items x_.Op x_.Bound) 1]]
def zic (x_:Atom):Bool×yC:=(zQj x_).fin default
def zfN:Ab.Spec ty:=zh zUv fun x=>((zic x.1).1,zFD (zic x.1).2)
theorem zhT:SdP 152 zfN:=
 sW (cx':=zPo) zq zi zk (zj trivial) Tryz.call152 Tryz.func152 (c:=body Tryz.f152) (lOK aN) (sg:=⟨[.own 28],[]⟩)
def zU0:Cx ty:=mkCx base 9 [(128,zs0),(152,zfN)] [] [] [] [] []
def zWU (id:RowID):Wy0 (yC):=.bn (zpw id) fun r0=>.i (!r0) (.k []) (.k ((zic (Atom.mk 0 id [] 0 [] 0 (Value.mk 0 0 (ByteArray.mk #[])))).2))
def zCO (id:RowID):Bool×yC:=(zWU id).fin default
def zCl:Ab.Spec ty:=zh zZS fun x=>((zCO x.1).1,zFD (zCO x.1).2)
theorem zPl:SdP 88 zCl:=
 sW (cx':=zU0) zq zi zk (zj ⟨zxR,zhT,trivial⟩) Tryz.call88 Tryz.func88 (c:=body Tryz.f88) (lOK aN) (sg:=⟨[.own 28],[]⟩)
abbrev zcB:=yG×(RowID×Unit)×Int×Int×Unit
def zqe (s:yG) (f:RowID) (t7:Int) (t8:Int):Wy zcB (Unit) (Int⊕Unit):=.i (decide (t8<t7)) (.i (decide (0≤t8)&&decide (t8<Int.ofNat s.length)) (.i ((zlV (s.getD t8.toNat default) f).2) (.k (.inl t8)) (.h (s,(f,()),t7,(IntKind.i64.wrap (t8+1)),()) ())) .d) (.k (.inr ()))
def zhm (x:zcB) (y:Unit):Wy zcB (Unit) (Int⊕Unit):=zqe x.1 x.2.1.1 x.2.2.1 x.2.2.2.1
def zqw (n:Nat) (s:yG) (f:RowID) (t7:Int) (t8:Int):Bool×(Int⊕Unit):=zJ (zhm) (.inl default) n (s,(f,()),t7,t8,()) ()
def zqD:LL ty zcB:=za (lSl 51) (za (lFn 86 (za (zlS (zd6 (fun x=>(⟨x.1,x.2.1⟩:RowID)) (fun x=>(x.Table,x.Seq,())) (fun _=>rfl) (za lI64 (za lI64 zn))) 0) zn)) (za lI64 (za lI64 zn)))
def zo0 (x:zcB) (y:Unit):Nat:=(x.1.length+Int.toNat x.2.2.1+Int.toNat x.2.2.2.1+1)
def zhl:Cx ty:=mkCx base 19 [(86,zi3)] [] [(2,(kpL [0,1,7,8]))] [(2,1,[]),(2,0,(kpL [4]))] [(2,spW zqD zSV (zhm) (.inl default) zq1 zo0)] []
theorem zpZ:zI zhl (lp (body Tryz.f85) 0):=zt (id:=2) (hl:=rfl)
def zqZ (s:yG) (f:RowID):Wy0 (Int):=.bn (zqw (s.length+(Int.ofNat s.length).toNat +Int.toNat 0+1) s f (Int.ofNat s.length) 0) fun r0=>.i (isL r0) (.k (getL r0)) (.k (-1:Int))
def zes (s:yG) (f:RowID):Bool×Int:=(zqZ s f).fin default
def zrf:AL base (yG×(RowID×Unit)×Unit):=zd (ze (vSl 51)) (zd (ze (vFn 86 (zdj (zwI 49) vNil))) aNil)
def zgC:Ab.Spec ty:=zh zrf fun x=>((zes x.1 x.2.1.1).1,zVk (zes x.1 x.2.1.1).2)
theorem znX:SdP 85 zgC:=
 sW (cx':=zhl) zq zi zk (zj ⟨zos,trivial⟩) Tryz.call85 Tryz.func85 (c:=body Tryz.f85) (lOK (aC zpZ aN))
def zEf:Cx ty:=mkCx base 18 [(85,zgC),(86,zi3),(87,annotation_copied_spec),(88,zCl)] [] [] [] [] []
def zFl (id:RowID) (p1:yG):Wy0 (yC):=.bn (zes p1 id) fun r2=>.i (decide (r2≥0)) (.i (decide (0≤r2)&&decide (r2<Int.ofNat p1.length)) (.bn (zh9 (p1.getD r2.toNat default).To) fun r0=>.k r0) .d) (.bn (zCO id) fun r1=>.k r1)
def zpG (id:RowID) (p1:yG):Bool×yC:=(zFl id p1).fin default
def zFN:AL base (RowID×(yG×Unit)×Unit):=zd (ze (vAgg 49)) (zd (ze (vBox (zdj (vSl 51) vNil))) aNil)
def zgD:Ab.Spec ty:=zh zFN fun x=>((zpG x.1 x.2.1.1).1,zFD (zpG x.1 x.2.1.1).2)
theorem zj6:SdP 84 zgD:=
 sW (cx':=zEf) zq zi zk (zj ⟨znX,zos,zhH,zPl,trivial⟩) Tryz.call84 Tryz.func84 (c:=body Tryz.f84) (lOK aN) (sg:=⟨[.own 28],[]⟩)
abbrev zjA:=((yG×Unit)×Unit)×Unit×Unit×yC×Int×yC×Int×Int×yD×Int×Int×Int×Int×Unit
abbrev zc5:=yC×yC×Unit
abbrev zmF:=yG×Int×yC×Int×Int×yD×Int×Int×yC×yC
abbrev zi7:=((yG×Unit)×Unit)×Unit×Unit×yC×Int×Int×yD×Int×Int×Unit
abbrev zmP:=Int⊕(yG×yC×Int×Int×yC×yC)
abbrev zja:=((yG×Unit)×Unit)×Unit×yC×Int×Int×Unit
abbrev zjp:=yC×Unit
abbrev zmM:=Int⊕yC
def zIm (zo:Atom→yG→Bool×(yC×Int)) (to:yG) (b:yC) (e:Int) (t16:yC) (t17:Int) (t18:Int) (t26:yD) (t27:Int) (t28:Int) (t40:Int) (t41:Int) (sum:yC) (product:yC):Wy zjA zc5 zmF:=.i (decide (t41<t40)) (.i (e==0) (.bn (zDB product b) fun r6=>.h (((to,()),()),(),(),b,(r6.2),t16,t17,t18,t26,t27,t28,t40,(IntKind.i64.wrap (t41+1)),()) (sum,(r6.1),())) (.h (((to,()),()),(),(),b,e,t16,t17,t18,t26,t27,t28,t40,(IntKind.i64.wrap (t41+1)),()) (sum,product,()))) (.k (to,e,t16,t17,t18,t26,t27,t28,sum,product))
def zxK (zo:Atom→yG→Bool×(yC×Int)) (x:zjA) (y:zc5):Wy zjA zc5 zmF:=zIm zo x.1.1.1 x.2.2.2.1 x.2.2.2.2.1 x.2.2.2.2.2.1 x.2.2.2.2.2.2.1 x.2.2.2.2.2.2.2.1 x.2.2.2.2.2.2.2.2.1 x.2.2.2.2.2.2.2.2.2.1 x.2.2.2.2.2.2.2.2.2.2.1 x.2.2.2.2.2.2.2.2.2.2.2.1 x.2.2.2.2.2.2.2.2.2.2.2.2.1 y.1 y.2.1
def zIr (zo:Atom→yG→Bool×(yC×Int)) (n:Nat) (to:yG) (b:yC) (e:Int) (t16:yC) (t17:Int) (t18:Int) (t26:yD) (t27:Int) (t28:Int) (t40:Int) (t41:Int) (sum:yC) (product:yC):Bool×zmF:=zJ (zxK zo) default n (((to,()),()),(),(),b,e,t16,t17,t18,t26,t27,t28,t40,t41,()) (sum,product,())
def zHo (r:zmF):LTree ty:=.done (.exit 4) [.fn 84 ([.bptr ([.sl 51 r.1]) 0]),.own 272,.own 273,.lit (.int .i64 r.2.1),.sl 28 r.2.2.1,.lit (.int .i64 r.2.2.2.1),.lit (.int .i64 r.2.2.2.2.1),.sl 69 r.2.2.2.2.2.1,.lit (.int .i64 r.2.2.2.2.2.2.1),.lit (.int .i64 r.2.2.2.2.2.2.2.1)] [.arr 28 r.2.2.2.2.2.2.2.2.1 false,.arr 28 r.2.2.2.2.2.2.2.2.2 false]
def zIc:LL ty zjA:=za (lFn 84 (za (zlS (za (lSl 51) zn) 0) zn)) (za (lOwn 272) (za (lOwn 273) (za (lSl 28) (za lI64 (za (lSl 28) (za lI64 (za lI64 (za (lSl 69) (za lI64 (za lI64 (za lI64 (za lI64 zn))))))))))))
def zHG:BL ty zc5:=bArr 28 false (bArr 28 false (bNil))
def zJX (zo:Atom→yG→Bool×(yC×Int)) (to:yG) (t16:yC) (t17:Int) (t18:Int) (t26:yD) (t27:Int) (t28:Int) (sum:yC) (product:yC):Wy zi7 zc5 zmP:=.i (decide (t28<t27)) (.i (decide (0≤t28)&&decide (t28<Int.ofNat t26.length)) (.bn (zo (Atom.mk (t26.getD t28.toNat default).Atom.Kind (t26.getD t28.toNat default).Atom.Row (t26.getD t28.toNat default).Atom.Args (t26.getD t28.toNat default).Atom.Func (t26.getD t28.toNat default).Atom.Items (t26.getD t28.toNat default).Atom.Op (t26.getD t28.toNat default).Atom.Bound) to) fun r9=>.bn (zIr zo (to.length+r9.1.length+r9.2.toNat +t16.length+t17.toNat +t18.toNat +t26.length+t27.toNat +t28.toNat +(t26.getD t28.toNat default).Exp.toNat +Int.toNat 0+sum.length+product.length+1) to r9.1 r9.2 t16 t17 t18 t26 t27 t28 (t26.getD t28.toNat default).Exp 0 sum product) fun r8=>.i (r8.2.1 != 0) (.k (.inl (r8.2.1))) (.h ((((r8.1),()),()),(),(),(r8.2.2.1),(r8.2.2.2.1),(r8.2.2.2.2.1),(r8.2.2.2.2.2.1),(r8.2.2.2.2.2.2.1),(IntKind.i64.wrap (r8.2.2.2.2.2.2.2.1+1)),()) ((r8.2.2.2.2.2.2.2.2.1),(r8.2.2.2.2.2.2.2.2.2),()))) .d) (.k (.inr (to,t16,t17,t18,sum,product)))
def zyw (zo:Atom→yG→Bool×(yC×Int)) (x:zi7) (y:zc5):Wy zi7 zc5 zmP:=zJX zo x.1.1.1 x.2.2.2.1 x.2.2.2.2.1 x.2.2.2.2.2.1 x.2.2.2.2.2.2.1 x.2.2.2.2.2.2.2.1 x.2.2.2.2.2.2.2.2.1 y.1 y.2.1
def zJH (zo:Atom→yG→Bool×(yC×Int)) (n:Nat) (to:yG) (t16:yC) (t17:Int) (t18:Int) (t26:yD) (t27:Int) (t28:Int) (sum:yC) (product:yC):Bool×zmP:=zJ (zyw zo) (.inl default) n (((to,()),()),(),(),t16,t17,t18,t26,t27,t28,()) (sum,product,())
def zID (r:zmP):LTree ty:=.ite (isL r) (.done .ret [.lit (.slice none 0 0),.lit (.int .i64 (getL r))] []) (.done (.exit 2) [.fn 84 ([.bptr ([.sl 51 (getR r).1]) 0]),.own 272,.own 273,.sl 28 (getR r).2.1,.lit (.int .i64 (getR r).2.2.1),.lit (.int .i64 (getR r).2.2.2.1)] [.arr 28 (getR r).2.2.2.2.1 false,.arr 28 (getR r).2.2.2.2.2 false])
def zJ0:LL ty zi7:=za (lFn 84 (za (zlS (za (lSl 51) zn) 0) zn)) (za (lOwn 272) (za (lOwn 273) (za (lSl 28) (za lI64 (za lI64 (za (lSl 69) (za lI64 (za lI64 zn))))))))
def zJy (zo:Atom→yG→Bool×(yC×Int)) (to:yG) (t16:yC) (t17:Int) (t18:Int) (sum:yC):Wy zja zjp zmM:=.i (decide (t18<t17)) (.i (decide (0≤t18)&&decide (t18<Int.ofNat t16.length)) (.bn (zz3 (t16.getD t18.toNat default).Coeff) fun r14=>.bn (zJH zo (to.length+t16.length+t17.toNat +t18.toNat +(t16.getD t18.toNat default).Factors.length+(Int.ofNat (t16.getD t18.toNat default).Factors.length).toNat +Int.toNat 0+sum.length+r14.length+1) to t16 t17 t18 (t16.getD t18.toNat default).Factors (Int.ofNat (t16.getD t18.toNat default).Factors.length) 0 sum r14) fun r13=>.i (isL r13) (.k (.inl (getL r13))) (.bn (zDg (getR r13).2.2.2.2.1 (getR r13).2.2.2.2.2) fun r12=>.i (r12.2 != 0) (.k (.inl (r12.2))) (.h ((((getR r13).1,()),()),(),(getR r13).2.1,(getR r13).2.2.1,(IntKind.i64.wrap ((getR r13).2.2.2.1+1)),()) ((r12.1),())))) .d) (.k (.inr sum))
def zyA (zo:Atom→yG→Bool×(yC×Int)) (x:zja) (y:zjp):Wy zja zjp zmM:=zJy zo x.1.1.1 x.2.2.1 x.2.2.2.1 x.2.2.2.2.1 y.1
def zJG (zo:Atom→yG→Bool×(yC×Int)) (n:Nat) (to:yG) (t16:yC) (t17:Int) (t18:Int) (sum:yC):Bool×zmM:=zJ (zyA zo) (.inl default) n (((to,()),()),(),t16,t17,t18,()) (sum,())
def zIu (r:zmM):LTree ty:=.ite (isL r) (.done .ret [.lit (.slice none 0 0),.lit (.int .i64 (getL r))] []) (.done (.exit 0) [.own 272] [.arr 28 (getR r) false])
def zJ2:LL ty zja:=za (lFn 84 (za (zlS (za (lSl 51) zn) 0) zn)) (za (lOwn 272) (za (lSl 28) (za lI64 (za lI64 zn))))
def zJC:BL ty zjp:=bArr 28 false (bNil)
def zGA (x:zjA) (y:zc5):Nat:=(x.1.1.1.length+x.2.2.2.1.length+Int.toNat x.2.2.2.2.1+x.2.2.2.2.2.1.length+Int.toNat x.2.2.2.2.2.2.1+Int.toNat x.2.2.2.2.2.2.2.1+x.2.2.2.2.2.2.2.2.1.length+Int.toNat x.2.2.2.2.2.2.2.2.2.1+Int.toNat x.2.2.2.2.2.2.2.2.2.2.1+Int.toNat x.2.2.2.2.2.2.2.2.2.2.2.1+Int.toNat x.2.2.2.2.2.2.2.2.2.2.2.2.1+y.1.length+y.2.1.length+1)
def zIi (x:zi7) (y:zc5):Nat:=(x.1.1.1.length+x.2.2.2.1.length+Int.toNat x.2.2.2.2.1+Int.toNat x.2.2.2.2.2.1+x.2.2.2.2.2.2.1.length+Int.toNat x.2.2.2.2.2.2.2.1+Int.toNat x.2.2.2.2.2.2.2.2.1+y.1.length+y.2.1.length+1)
def zHQ (x:zja) (y:zjp):Nat:=(x.1.1.1.length+x.2.2.1.length+Int.toNat x.2.2.2.1+Int.toNat x.2.2.2.2.1+y.1.length+1)
def zkX (zo:Atom→yG→Bool×(yC×Int)):Cx ty:=mkCx base0 68 [(23,zCq),(84,zgD),(92,zCm),(149,zAj),(150,(zkf zo))] [] [(3,[(1,.keep),(6,.own 28),(16,.keep),(17,.keep),(18,.keep)]),(7,(kpL [1,6,9,16,17,18,26,27,28])),(11,[(1,.keep),(6,.keep),(9,.keep),(12,.sl 28),(13,.keep),(16,.keep),(17,.keep),(18,.keep),(26,.keep),(27,.keep),(28,.keep),(40,.keep),(41,.keep)])] [(3,1,(kpL [6])),(3,0,(kpL [4,5])),(7,3,(kpL [1,6,9,16,17,18])),(7,0,(kpL [4,5])),(11,5,(kpL [1,6,9,13,16,17,18,26,27,28]))] [(11,spW zIc zHG (zxK zo) default zHo zGA),(7,spW zJ0 zHG (zyw zo) (.inl default) zID zIi),(3,spW zJ2 zJC (zyA zo) (.inl default) zIu zHQ)] []
theorem zHl (zo:Atom→yG→Bool×(yC×Int)):zI (zkX zo) (lp (body Tryz.f83) 2):=zt (id:=11) (hl:=rfl)
theorem zHW (zo:Atom→yG→Bool×(yC×Int)):zI (zkX zo) (lp (body Tryz.f83) 1):=zt (id:=7) (hl:=rfl)
theorem zJe (zo:Atom→yG→Bool×(yC×Int)):zI (zkX zo) (lp (body Tryz.f83) 0):=zt (id:=3) (hl:=rfl)
def zMb (zo:Atom→yG→Bool×(yC×Int)) (a:yC) (to:yG):Wy0 (yC×Int):=.bn (zJG zo (to.length+a.length+(Int.ofNat a.length).toNat +Int.toNat 0+0+1) to a (Int.ofNat a.length) 0 []) fun r18=>.i (isL r18) (.k ([],getL r18)) (.k (getR r18,0))
def zBI (zo:Atom→yG→Bool×(yC×Int)) (a:yC) (to:yG):Bool×(yC×Int):=(zMb zo a to).fin default
theorem zFF (zo:Atom→yG→Bool×(yC×Int)) (zE1:Sound Tryz.prog base0 150 (zkf zo)):Sound Tryz.prog base0 83 (zj8 (zBI zo)):=
 sW (cx':=(zkX zo)) zq zh8 zk (zj ⟨zOi,zj6.nodr,zOb,zKU.nodr,zE1,trivial⟩) Tryz.call83 Tryz.func83 (c:=body Tryz.f83) (lOK (aC (zJe zo) (aC (zHW zo) (aC (zHl zo) aN)))) (sg:=⟨[.own 28,.pure],[]⟩)
def zUH:Cx ty:=mkCx base 3 [] [] [] [] [] []
def zXv:Wy0 (yC):=.k [TermOf.mk 1 []]
def ztV:Bool×yC:=(zXv).fin default
def zp3:Ab.Spec ty:=zh zLs fun x=>((ztV ).1,zFD (ztV ).2)
theorem zu6:SdP 36 zp3:=
 sW (cx':=zUH) zq zi zk (zj trivial) Tryz.call36 Tryz.func36 (c:=body Tryz.f36) (lOK aN) (sg:=⟨[.own 28],[]⟩)
def zOB:Cx ty:=mkCx base 23 [(20,annotation_Valid_spec),(36,zp3),(70,zef),(131,zlN),(152,zfN)] [] [] [] [] []
def zRf (a:yC):Wy0 (yC×Int):=.bn (zce a) fun r2=>.i (!r2) (.k ([],1)) (.i (Int.ofNat a.length==0) (.k (ztV.2,0)) (.bn (zex a) fun r1=>.i (r1) (.k ([],0)) (.bn (zfi (zic (Atom.mk 3 (RowID.mk 0 0) [a] 0 [] 0 (Value.mk 0 0 (ByteArray.mk #[])))).2) fun r0=>.k (r0.1,r0.2))))
def zyQ (a:yC):Bool×(yC×Int):=(zRf a).fin default
def zzp:Ab.Spec ty:=zh z1A fun x=>((zyQ x.1).1,zLE (zyQ x.1).2)
theorem zJ3:SdP 179 zzp:=
 sW (cx':=zOB) zq zi zk (zj ⟨zco,zu6,zeU,ztH,zhT,trivial⟩) Tryz.call179 Tryz.func179 (c:=body Tryz.f179) (lOK aN) (sg:=⟨[.own 28,.pure],[]⟩)
def zQC:Cx ty:=mkCx base 29 [(20,annotation_Valid_spec),(36,zp3),(70,zef),(87,annotation_copied_spec),(129,zmR),(130,zsM),(152,zfN)] [] [] [] [] []
def zR8 (a:yC):Wy0 (yC×Int):=.bn (zce a) fun r5=>.i (!r5) (.k ([],1)) (.i (Int.ofNat a.length==0) (.bn (zh9 a) fun r0=>.k (r0,0)) (.bn (zkD a) fun r4=>.i (r4) (.bn (zh9 a) fun r1=>.k (r1,0)) (.bn (zgs a) fun r3=>.i (r3) (.k (ztV.2,0)) (.bn (zfi (zic (Atom.mk 2 (RowID.mk 0 0) [a] 0 [] 0 (Value.mk 0 0 (ByteArray.mk #[])))).2) fun r2=>.k (r2.1,r2.2)))))
def zzW (a:yC):Bool×(yC×Int):=(zR8 a).fin default
def zAo:Ab.Spec ty:=zh z1A fun x=>((zzW x.1).1,zLE (zzW x.1).2)
theorem zLe:SdP 178 zAo:=
 sW (cx':=zQC) zq zi zk (zj ⟨zco,zu6,zeU,zhH,zum,zyx,zhT,trivial⟩) Tryz.call178 Tryz.func178 (c:=body Tryz.f178) (lOK aN) (sg:=⟨[.own 28,.pure],[]⟩)
def zQs:Cx ty:=mkCx base 38 [(20,annotation_Valid_spec),(21,zmL),(70,zef),(87,annotation_copied_spec),(152,zfN)] [] [] [] [] []
def zSE (a:yC) (b:yC):Wy0 (yC×Int):=.bn (zce a) fun r4=>.i (!r4) (.k ([],1)) (.bn (zce b) fun r3=>.i (!r3) (.k ([],1)) (.i (Int.ofNat b.length==0) (.bn (zh9 a) fun r0=>.k (r0,0)) (.i (Int.ofNat a.length==0) (.k ([],0)) (.bn (zgX a b) fun r2=>.i (r2) (.k ([],0)) (.bn (zfi (zic (Atom.mk 1 (RowID.mk 0 0) [a,b] 0 [] 0 (Value.mk 0 0 (ByteArray.mk #[])))).2) fun r1=>.k (r1.1,r1.2))))))
def zzZ (a:yC) (b:yC):Bool×(yC×Int):=(zSE a b).fin default
def zAf:Ab.Spec ty:=zh zYr fun x=>((zzZ x.1 x.2.1).1,zLE (zzZ x.1 x.2.1).2)
theorem zKZ:SdP 177 zAf:=
 sW (cx':=zQs) zq zi zk (zj ⟨zco,zsr,zeU,zhH,zhT,trivial⟩) Tryz.call177 Tryz.func177 (c:=body Tryz.f177) (lOK aN) (sg:=⟨[.own 28,.pure],[]⟩)
def zfs (x:yE) (a b:Int):Bool×yE:=zZ3 zbt x a b
def slices_insertionSortCmpFunc_api_Weighted_spec:Ab.Spec ty:=zh (cx:=base) (zd (aOwn 100) (zd (ze (vInt .i64)) (zd (ze (vInt .i64)) (zd (ze (vFn 124 vNil)) aNil)))) fun x=>((zfs x.1 x.2.1 x.2.2.1).1,⟨[],[some ⟨100,(zfs x.1 x.2.1 x.2.2.1).2⟩]⟩)
theorem zsJ (c:Unit) (x y:Weighted) (h:(zbt x y).1=true):annotation_compareItems_spec ((AV.agg (base.enc 100 x)::AV.agg (base.enc 100 y)::(vNil:VL base Unit).enc c).map Arg.pure)=some (true,⟨[.pure (.lit (.int .i64 (zbt x y).2))],[]⟩):=by
 rw [← h]; kernel_rfl
theorem zq9:SdP 281 slices_insertionSortCmpFunc_api_Weighted_spec:=by
 letI:DecidableEq (ty 100):=inferInstanceAs (DecidableEq Weighted)
 exact z5Y (T:=100) zi rfl Go.Proofs.Tryz.insW Tryz.isAgg100 (by unfold szOf; exact Tryz.sizeOf100) Tryz.call281 zgG vNil (fun c=>zbt) zsJ
open Go.Proofs Go.RowKit
def zck (x:yE) (m:Int):Bool×yE:=(decide (SortOK zbt x)&&(decide (m=x.length)&&decide (m<20)),zhE zbt x)
def zlj:Ab.Spec ty:=zh (cx:=base) (zd (aOwn 100) (zd (ze (vInt .i64)) (zd (ze (vFn 124 vNil)) aNil))) fun x=>((zck x.1 x.2.1).1,⟨[],[some ⟨100,(zck x.1 x.2.1).2⟩]⟩)
set_option maxHeartbeats 1000000 in
theorem zvP:SdP 262 zlj where
 enters:=Tryz.call262
 calls:=fun avs r hsp w F vs hF ha hsep=>by
  unfold zlj zh at hsp;split at hsp
  ·rename_i x hx;simp only [qa,qb] at hsp;obtain ⟨hpre,rfl⟩:=hsp;have hk:=(zd (aOwn 100) (zd (ze (vInt .i64)) (zd (ze (vFn 124 vNil)) aNil)):AL base _).kind vs avs x hx;have ha':=(zd (aOwn 100) (zd (ze (vInt .i64)) (zd (ze (vFn 124 vNil)) aNil)):AL base _).ok Tryz.prog zi F w vs avs x hx ha;rw [hk] at hsep ⊢;clear hk hx ha;obtain ⟨l0,m,c,u0⟩:=x;obtain ⟨l,rfl⟩:∃ l:yE,l=l0:=⟨l0,rfl⟩;obtain ⟨v,vs',rfl,hv,hv'⟩:=ha'.inv;obtain ⟨mv,vs1,rfl,hm,hv1⟩:=hv'.inv;obtain ⟨fv,vs'',rfl,hfv,h0⟩:=hv1.inv;obtain rfl:=h0.nil_left.1;have hm:Rep base F w mv (.lit (.int .i64 m)):=hm;obtain rfl:mv=.int .i64 m:=by cases hm; rfl
   have hsl:∃ p cap,v=.slice p l.length cap:=by
    obtain ⟨⟨xs,hown,_⟩,_⟩:=(show zcH base F w v 100 l∧∀ b,zbb v=some b→¬ F b from hv)
    rcases hown.2 with ⟨h1,h2⟩ | ⟨g0,cap,cur,h1,_⟩
    ·exact ⟨none,0,by rw [h1,show l.length=0 from h2]⟩
    ·exact ⟨_,cap,h1⟩
   have hpre:(decide (SortOK (α:=Weighted) zbt l)&&(decide (m=l.length)&&decide (m<20)))=true:=hpre;simp only [qc,qe] at hpre;obtain ⟨hok,rfl,h20⟩:=hpre
   have hpp:(zfs l 0 (l.length:Int)).1=true:=by
    show (decide (SortOK (α:=Weighted) zbt l)&&(decide ((0:Int)=0)&&decide ((l.length:Int)=l.length)))=true;simp only [qc,qe];exact ⟨hok,trivial,trivial⟩
   have hp:=(zq9).calls [.own 100 l,.pure (.lit (.int .i64 0)),.pure (.lit (.int .i64 (l.length:Int))),.pure (.fn 124 [])] ⟨[],[some ⟨100,(zck l (l.length:Int)).2⟩]⟩
    (by rw [← hpp]; kernel_rfl) w F [v,.int .i64 0,.int .i64 (l.length:Int),fv] hF (.cons hv (.cons (Rep.lit _) (.cons (Rep.lit _) (.cons hfv .nil)))) hsep
   replace hp:Calls Tryz.prog 281 #[v,.int .i64 0,.int .i64 (l.length:Int),fv] w fun e w'=>∃ u,e=.returned u∧Post base F w [v] ⟨[],[some ⟨100,(zck l (l.length:Int)).2⟩]⟩ u w':=hp
   show Calls Tryz.prog 262 #[v,.int .i64 (l.length:Int),fv] w fun e w'=>∃ u,e=.returned u∧Post base F w [v] ⟨[],[some ⟨100,(zck l (l.length:Int)).2⟩]⟩ u w'
   generalize (zck l (l.length:Int)).2=res at hp ⊢;generalize hn:l.length=m at *;clear hpp hv hfv hsep hok hF hm;obtain ⟨p,cap,rfl⟩:=hsl;clear hn
   go_enter Tryz.func262,Tryz.ntmps262
   go_wp2
   refine wp_loop_rounds 1 ?_;rw [rounds_succ]
   go_wp2_with (go_at_call 281; refine hp.mono ?_; rintro e w' ⟨u,rfl,hpost⟩; obtain rfl:=hpost.unit)
   refine wp_loop_rounds 1 ?_;rw [rounds_succ]
   go_wp2
   all_goals first | (exfalso; omega) | (go_end0; exact ⟨_,rfl,hpost⟩)
  ·cases hsp
end Go.Proofs.YtljlfiomikifjaaGreatDoor
namespace Go.Proofs.YtljlfiomikifjaaGreatDoor
open Go Go.Ab
open Go.Proofs Go.RowKit
def zbv (x:yE):Bool×yE:=(decide (SortOK zbt x)&&decide (x.length<20),zhE zbt x)
def zdB:Ab.Spec ty:=zh (cx:=base) (zd (aOwn 100) (zd (ze (vFn 124 vNil)) aNil)) fun x=>((zbv x.1).1,⟨[],[some ⟨100,(zbv x.1).2⟩]⟩)
set_option maxHeartbeats 1000000 in
theorem zl1:SdP 242 zdB where
 enters:=Tryz.call242
 calls:=fun avs r hsp w F vs hF ha hsep=>by
  unfold zdB zh at hsp;split at hsp
  ·rename_i x hx;simp only [qa,qb] at hsp;obtain ⟨hpre,rfl⟩:=hsp;have hk:=(zd (aOwn 100) (zd (ze (vFn 124 vNil)) aNil):AL base _).kind vs avs x hx;have ha':=(zd (aOwn 100) (zd (ze (vFn 124 vNil)) aNil):AL base _).ok Tryz.prog zi F w vs avs x hx ha;rw [hk] at hsep ⊢;clear hk hx ha;obtain ⟨l0,c,u0⟩:=x;obtain ⟨l,rfl⟩:∃ l:yE,l=l0:=⟨l0,rfl⟩;obtain ⟨v,vs',rfl,hv,hv'⟩:=ha'.inv;obtain ⟨fv,vs'',rfl,hfv,h0⟩:=hv'.inv;obtain rfl:=h0.nil_left.1
   have hsl:∃ p cap,v=.slice p l.length cap:=by
    obtain ⟨⟨xs,hown,_⟩,_⟩:=(show zcH base F w v 100 l∧∀ b,zbb v=some b→¬ F b from hv)
    rcases hown.2 with ⟨h1,h2⟩ | ⟨g0,cap,cur,h1,_⟩
    ·exact ⟨none,0,by rw [h1,show l.length=0 from h2]⟩
    ·exact ⟨_,cap,h1⟩
   have hpre:(decide (SortOK (α:=Weighted) zbt l)&&decide (l.length<20))=true:=hpre;simp only [qc,qe] at hpre;obtain ⟨hok,h20⟩:=hpre
   have hpp:(zck l (l.length:Int)).1=true:=by
    show (decide (SortOK (α:=Weighted) zbt l)&&(decide ((l.length:Int)=l.length)&&decide ((l.length:Int)<20)))=true;simp only [qc,qe];exact ⟨hok,trivial,by omega⟩
   have hp:=(zvP).calls [.own 100 l,.pure (.lit (.int .i64 (l.length:Int))),.pure (.fn 124 [])] ⟨[],[some ⟨100,(zbv l).2⟩]⟩
    (by rw [← hpp]; kernel_rfl) w F [v,.int .i64 (l.length:Int),fv] hF (.cons hv (.cons (Rep.lit _) (.cons hfv .nil))) hsep
   replace hp:Calls Tryz.prog 262 #[v,.int .i64 (l.length:Int),fv] w fun e w'=>∃ u,e=.returned u∧Post base F w [v] ⟨[],[some ⟨100,(zbv l).2⟩]⟩ u w':=hp
   show Calls Tryz.prog 242 #[v,fv] w fun e w'=>∃ u,e=.returned u∧Post base F w [v] ⟨[],[some ⟨100,(zbv l).2⟩]⟩ u w'
   generalize (zbv l).2=res at hp ⊢;generalize hn:l.length=m at *;clear hpp hv hfv hsep hok hF;obtain ⟨p,cap,rfl⟩:=hsl;clear hn
   go_enter Tryz.func242,Tryz.ntmps242
   go_wp2_with (go_at_call 262; refine hp.mono ?_; rintro e w' ⟨u,rfl,hpost⟩; obtain rfl:=hpost.unit)
   go_end0
   exact ⟨_,rfl,hpost⟩
  ·cases hsp
end Go.Proofs.YtljlfiomikifjaaGreatDoor
namespace Go.Proofs.YtljlfiomikifjaaGreatDoor
open Go Go.Ab
abbrev zli:=Unit×yE×Int×Int×Unit
abbrev ziv:=yE×Unit
def zQ2 (t6:yE) (t7:Int) (t8:Int) (out_:yE):Wy zli ziv (yE):=.i (decide (t8<t7)) (.i (decide (0≤t8)&&decide (t8<Int.ofNat t6.length)) (.i (decide (Int.ofNat (t6.getD t8.toNat default).Ann.length>0)) (.bn (zh9 (t6.getD t8.toNat default).Ann) fun r0=>.i (decide ((out_.length+[WeightedOf.mk (t6.getD t8.toNat default).Value r0].length)*56≤zbk)) (.h ((),t6,t7,(IntKind.i64.wrap (t8+1)),()) ((out_++[WeightedOf.mk (t6.getD t8.toNat default).Value r0]),())) .d) (.h ((),t6,t7,(IntKind.i64.wrap (t8+1)),()) (out_,()))) .d) (.k out_)
def zCr (x:zli) (y:ziv):Wy zli ziv (yE):=zQ2 x.2.1 x.2.2.1 x.2.2.2.1 y.1
def zQg (n:Nat) (t6:yE) (t7:Int) (t8:Int) (out_:yE):Bool×yE:=zJ (zCr) default n ((),t6,t7,t8,()) (out_,())
def zPu (r:yE):LTree ty:=.done (.exit 0) [.own 116] [.arr 100 r false]
def zQK:LL ty zli:=za (lOwn 116) (za (lSl 100) (za lI64 (za lI64 zn)))
def zQU:BL ty ziv:=bArr 100 false (bNil)
def zOQ (x:zli) (y:ziv):Nat:=(x.2.1.length+Int.toNat x.2.2.1+Int.toNat x.2.2.2.1+y.1.length+1)
def zCo:Cx ty:=mkCx base 29 [(87,annotation_copied_spec),(124,annotation_compareItems_spec),(242,zdB)] [(242,[true,false])] [(3,[(3,.own 100),(6,.keep),(7,.keep),(8,.keep)])] [(3,1,(kpL [3]))] [(3,spW zQK zQU (zCr) default zPu zOQ)] []
theorem zPH:zI zCo (lp (body Tryz.f218) 0):=zt (id:=3) (hl:=rfl)
def zRm (l:yE):Wy0 (yE):=.bn (zQg (l.length+(Int.ofNat l.length).toNat +Int.toNat 0+0+1) l (Int.ofNat l.length) 0 []) fun r3=>.bn (zbv r3) fun r2=>.k r2
def zzS (l:yE):Bool×yE:=(zRm l).fin default
def zOu (r:yE):ARes ty:=⟨[.own 100 r],[]⟩
def zTz:AL base ziv:=zd (ze (vSl 100)) aNil
def zAt:Ab.Spec ty:=zh zTz fun x=>((zzS x.1).1,zOu (zzS x.1).2)
theorem zK7:SdP 218 zAt:=
 sW (cx':=zCo) zq zi zk (zj ⟨zhH,zgG,zl1,trivial⟩) Tryz.call218 Tryz.func218 (c:=body Tryz.f218) (lOK (aC zPH aN)) (sg:=⟨[.own 100],[]⟩)
def zMr:Cx ty:=mkCx base 7 [(20,annotation_Valid_spec)] [] [] [] [] []
def zOp (w:Weighted):Wy0 (Bool):=.bn (zce w.Ann) fun r0=>.k (!r0)
def zxL (w:Weighted):Bool×Bool:=(zOp w).fin default
def zkW:Ab.Spec ty:=zh zGz fun x=>((zxL x.1).1,zY8 (zxL x.1).2)
theorem zpP:SdP 217 zkW:=
 sW (cx':=zMr) zq zi zk (zj ⟨zco,trivial⟩) Tryz.call217 Tryz.func217 (c:=body Tryz.f217) (lOK aN)
def zRj:Cx ty:=mkCx base 28 [] [] [] [] [] []
def zRO (op:Int) (sign:Int):Wy0 (Bool):=.i (op==5) (.k (sign==0)) (.i (op==6) (.k (sign != 0)) (.i (op==7) (.k (decide (sign<0))) (.i (op==8) (.k (decide (sign≤0))) (.i (op==9) (.k (decide (sign>0))) (.k (decide (sign≥0)))))))
def zzT (op:Int) (sign:Int):Bool×Bool:=(zRO op sign).fin default
def zAz:Ab.Spec ty:=zh z0o fun x=>((zzT x.1 x.2.1).1,zY8 (zzT x.1 x.2.1).2)
theorem zL6:SdP 219 zAz:=
 sW (cx':=zRj) zq zi zk (zj trivial) Tryz.call219 Tryz.func219 (c:=body Tryz.f219) (lOK aN)
end Go.Proofs.YtljlfiomikifjaaGreatDoor
end
