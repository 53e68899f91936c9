/- Texts of this claim, joined (the program, its functions in plain words, and what they compute). -/
import Derived.WalkKit
import Derived.WalkSpells
import Derived.Test.YtnolcogncjijpaaGreatDoorGC1
import Derived.Test.YtnolcogncjijpaaGreatDoorGC2
import Derived.Test.YtnolcogncjijpaaGreatDoorGA2
import Derived.Test.YtnolcogncjijpaaGreatDoorGB1
set_option autoImplicit false
set_option linter.unusedVariables false
set_option linter.unusedSectionVars false
set_option linter.unusedSimpArgs false
set_option maxRecDepth 1000000
set_option maxHeartbeats 0
noncomputable section
namespace Go.Proofs.YtnolcogncjijpaaGreatDoor
open Go Go.Ab
def zdr:Nat→(List Term→Bool×Bool)×(Atom→Bool×Bool)×(List Term→Bool×Bool)×(Weighted→Bool×Bool)×(List (List Term)→Bool×Int)×(List (List Term)→Bool×Bool)×(List Weighted→Bool×Int)×(List Weighted→Bool×Bool)
 | 0=>(fun _=>(false,default),fun _=>(false,default),fun _=>(false,default),fun _=>(false,default),fun _=>(false,default),fun _=>(false,default),fun _=>(false,default),fun _=>(false,default))
 | n+1=>(zkw ((zdr n).2.1),zh7 ((zdr n).2.2.2.2.2.2.2) ((zdr n).2.2.2.2.2.1) ((zdr n).2.2.1) ((zdr n).2.2.2.1),ziK ((zdr n).1),ziJ ((zdr n).1),zb5 ((zdr n).2.2.1),zbS ((zdr n).2.2.1) ((zdr n).2.2.2.2.1),zcp ((zdr n).2.2.2.1),zcg ((zdr n).2.2.2.1) ((zdr n).2.2.2.2.2.2.1))
def ziv (n:Nat):List Term→Bool×Bool:=(zdr n).1
def zkp (n:Nat):Atom→Bool×Bool:=(zdr n).2.1
def zd7 (n:Nat):List Term→Bool×Bool:=(zdr n).2.2.1
def zd6 (n:Nat):Weighted→Bool×Bool:=(zdr n).2.2.2.1
def zb6 (n:Nat):List (List Term)→Bool×Int:=(zdr n).2.2.2.2.1
def zbW (n:Nat):List (List Term)→Bool×Bool:=(zdr n).2.2.2.2.2.1
def zcn (n:Nat):List Weighted→Bool×Int:=(zdr n).2.2.2.2.2.2.1
def zcc (n:Nat):List Weighted→Bool×Bool:=(zdr n).2.2.2.2.2.2.2
theorem zCw (n:Nat):ziv (n+1)=zkw (zkp n):=rfl
theorem zzD (n:Nat):zkp (n+1)=zh7 (zcc n) (zbW n) (zd7 n) (zd6 n):=rfl
theorem zwA (n:Nat):zd7 (n+1)=ziK (ziv n):=rfl
theorem zwJ (n:Nat):zd6 (n+1)=ziJ (ziv n):=rfl
theorem zki (n:Nat):zb6 (n+1)=zb5 (zd7 n):=rfl
theorem zjC (n:Nat):zbW (n+1)=zbS (zd7 n) (zb6 n):=rfl
theorem zlm (n:Nat):zcn (n+1)=zcp (zd6 n):=rfl
theorem zkE (n:Nat):zcc (n+1)=zcg (zd6 n) (zcn n):=rfl
theorem zGB:∀ n,Sound Tryz.prog base 31 (zgG (ziv n))∧Sound Tryz.prog base 74 (zkn (zkp n))∧Sound Tryz.prog base 130 (zcH (zd7 n))∧Sound Tryz.prog base 131 (zcE (zd6 n))∧Sound Tryz.prog base 163 (zb7 (zb6 n))∧Sound Tryz.prog base 129 (zbV (zbW n))∧Sound Tryz.prog base 135 (zcq (zcn n))∧Sound Tryz.prog base 76 (zce (zcc n))
 | 0=>⟨zbB Tryz.call31 (fun _=>rfl),zbB Tryz.call74 (fun _=>rfl),zbB Tryz.call130 (fun _=>rfl),zbB Tryz.call131 (fun _=>rfl),zbB Tryz.call163 (fun _=>rfl),zbB Tryz.call129 (fun _=>rfl),zbB Tryz.call135 (fun _=>rfl),zbB Tryz.call76 (fun _=>rfl)⟩
 | n+1=>by
  have ih:=zGB n
  exact ⟨zAT _ (ih.2.1),zwv _ _ _ _ (ih.2.2.2.2.2.2.2) (ih.2.2.2.2.2.1) (ih.2.2.1) (ih.2.2.2.1),zuH _ (ih.1),zuF _ (ih.1),zjB _ (ih.2.2.1),ziU _ _ (ih.2.2.1) (ih.2.2.2.2.1),zku _ (ih.2.2.2.1),zjP _ _ (ih.2.2.2.1) (ih.2.2.2.2.2.2.1)⟩
def zbK:List Term→Bool×Bool:=ziv 1000
def annotation_Valid_spec:Ab.Spec ty:=zgG zbK
theorem zcm:Sound Tryz.prog base 31 annotation_Valid_spec:=(zGB 1000).1
def zGd:Cx ty:=mkCx base 3 [] [] [] [] [] []
def zA3:Wy0 (List Term):=.k [TermOf.mk 1 []]
def zkb:Bool×List Term:=(zA3).fin default
def zyi (r:List Term):ARes ty:=⟨[.own 42 r],[]⟩
def zAe:AL base (Unit):=aNil
def zjT:Ab.Spec ty:=zr zAe fun x=>((zkb ).1,zyi (zkb ).2)
theorem zlN:Sound Tryz.prog base 29 zjT:=
 zD (cx':=zGd) zQ zB zL (zF trivial) Tryz.call29 Tryz.func29 (c:=body Tryz.f29) (by kernel_rfl) (zj (l:=[]) (by kernel_rfl) trivial) (sg:=⟨[.own 42],[]⟩) (A:=zAe) (res:=zyi) (W:=fun x=>zA3 ) (z:=default)
def zuo (r:List Term):ARes ty:=⟨[.own 42 r],[]⟩
def zwp:AL base (List Term×Unit):=zf (zg (vSl 42)) aNil
def zjQ (F:List Term→Bool×List Term):Ab.Spec ty:=zr zwp fun x=>((F x.1).1,zuo (F x.1).2)
def zqv (r:Atom):ARes ty:=⟨[.pure (.agg (base.enc 48 r))],[]⟩
def zsl:AL base (Atom×Unit):=zf (zg (vAgg 48)) aNil
def zjK (F:Atom→Bool×Atom):Ab.Spec ty:=zr zsl fun x=>((F x.1).1,zqv (F x.1).2)
def zdI:Cx ty:={ base with nt:=8 }
def zd9 (s:List Factor):Bool×List Factor:=(decide (s.length*128≤zT),s)
def zi1:Ab.Spec ty:=zr (cx:=base) (zf (zg (vSl 50)) aNil) fun x=>((zd9 x.1).1,⟨[.own 50 (zd9 x.1).2],[]⟩)
theorem zpR:zh9 zdI Tryz.f117 (body Tryz.f117) ⟨[.own 50],[]⟩ [.pure (.lit (.slice none 0 0))]=some ⟨[.own 50 []],[]⟩:=by kernel_rfl
theorem zoT (p:Addr) (c:Nat):zh9 zdI Tryz.f117 (body Tryz.f117) ⟨[.own 50],[]⟩ [.pure (.lit (.slice (some p) 0 c))]=some ⟨[.own 50 []],[]⟩:=by kernel_rfl
theorem zpy (l:List Factor):zh9 zdI Tryz.f117 (body Tryz.f117) ⟨[.own 50],[]⟩ [.pure (.sl 50 l)]=bif !l.isEmpty then bif decide ((([]:List (ty 50)).length+l.length)*128≤zT) then some ⟨[.own 50 l],[]⟩ else none else none:=by kernel_rfl
theorem zoW:Sound Tryz.prog base 117 zi1:=
 zCl (cx':=zdI) (bytes:=128) zQ zB ⟨⟨rfl,rfl,rfl,rfl,rfl,rfl⟩,rfl⟩ (fun g s h=>by cases h) Tryz.call117 Tryz.func117 (c:=body Tryz.f117) (by kernel_rfl) (zj (l:=[]) (by kernel_rfl) trivial) zpR zoT zpy (by kernel_rfl)
abbrev ttTannotationcopied0:=Unit×Unit×Unit×List Term×Int×Int×Int×Int×Unit
abbrev ttTannotationcopied1:=List Term×Term×List Factor×Unit
abbrev ttTannotationcopied2:=List Term×Int×Int×List Term×Term×List Factor
abbrev ttTannotationcopied3:=Unit×List Term×Int×Int×Unit
abbrev ttTannotationcopied4:=List Term×Unit
def zhZ (zu:Atom→Bool×Atom) (t8:List Term) (t9:Int) (t10:Int) (t18:Int) (t19:Int) (out_:List Term) (t:Term) (factors:List Factor):Wy ttTannotationcopied0 ttTannotationcopied1 ttTannotationcopied2:=.i (decide (t19<t18)) (.i (decide (0≤t19)&&decide (t19<Int.ofNat factors.length)) (.bn (zu (Atom.mk (factors.getD t19.toNat default).Atom.Kind (factors.getD t19.toNat default).Atom.Row (factors.getD t19.toNat default).Atom.Args (factors.getD t19.toNat default).Atom.Func (factors.getD t19.toNat default).Atom.Items (factors.getD t19.toNat default).Atom.Op (factors.getD t19.toNat default).Atom.Bound)) fun r2=>.i (decide (0≤t19)&&decide (t19<Int.ofNat factors.length)) (.i (decide (t19.toNat<factors.length)) (.h ((),(),(),t8,t9,t10,t18,(IntKind.i64.wrap (t19+1)),()) (out_,t,(factors.set t19.toNat (FactorOf.mk (Atom.mk r2.Kind r2.Row r2.Args r2.Func r2.Items r2.Op r2.Bound) (factors.getD t19.toNat default).Exp)),())) .d) .d) .d) (.k (t8,t9,t10,out_,t,factors))
def zkm (zu:Atom→Bool×Atom) (x:ttTannotationcopied0) (y:ttTannotationcopied1):Wy ttTannotationcopied0 ttTannotationcopied1 ttTannotationcopied2:=zhZ zu x.2.2.2.1 x.2.2.2.2.1 x.2.2.2.2.2.1 x.2.2.2.2.2.2.1 x.2.2.2.2.2.2.2.1 y.1 y.2.1 y.2.2.1
def zs1 (zu:Atom→Bool×Atom) (n:Nat) (t8:List Term) (t9:Int) (t10:Int) (t18:Int) (t19:Int) (out_:List Term) (t:Term) (factors:List Factor):Bool×ttTannotationcopied2:=zN (zkm zu) default n ((),(),(),t8,t9,t10,t18,t19,()) (out_,t,factors,())
def zsk (r:ttTannotationcopied2):LTree ty:=.done (.exit 2) [.own 168,.ptr 169 0,.own 170,.sl 42 r.1,.lit (.int .i64 r.2.1),.lit (.int .i64 r.2.2.1)] [.arr 42 r.2.2.2.1 false,.box (base.enc 42 r.2.2.2.2.1) false,.arr 50 r.2.2.2.2.2 false]
def ztf:LL ty ttTannotationcopied0:=za (lOwn 168) (za (zqQ 169 0) (za (lOwn 170) (za (lSl 42) (za (lInt .i64) (za (lInt .i64) (za (lInt .i64) (za (lInt .i64) zS)))))))
def zsZ:BL ty ttTannotationcopied1:=bArr 42 false (bBox (ztB (fun x=>(⟨x.1,x.2.1⟩:Term)) (fun x=>(x.Coeff,x.Factors,())) (fun _=>rfl) (za (lInt .i64) (za (lSl 50) zS))) false (bArr 50 false (bNil)))
def zh6 (zu:Atom→Bool×Atom) (t8:List Term) (t9:Int) (t10:Int) (out_:List Term):Wy ttTannotationcopied3 ttTannotationcopied4 (List Term):=.i (decide (t10<t9)) (.i (decide (0≤t10)&&decide (t10<Int.ofNat t8.length)) (.bn (zd9 (t8.getD t10.toNat default).Factors) fun r5=>.bn (zs1 zu (t8.length+t9.toNat +t10.toNat +(Int.ofNat r5.length).toNat +Int.toNat 0+out_.length+(t8.getD t10.toNat default).Factors.length+r5.length+1) t8 t9 t10 (Int.ofNat r5.length) 0 out_ (t8.getD t10.toNat default) r5) fun r4=>.i (decide ((r4.2.2.2.1.length+[TermOf.mk r4.2.2.2.2.1.Coeff r4.2.2.2.2.2].length)*32≤zT)) (.h ((),(r4.1),(r4.2.1),(IntKind.i64.wrap (r4.2.2.1+1)),()) ((r4.2.2.2.1++[TermOf.mk r4.2.2.2.2.1.Coeff r4.2.2.2.2.2]),())) .d) .d) (.k out_)
def zkk (zu:Atom→Bool×Atom) (x:ttTannotationcopied3) (y:ttTannotationcopied4):Wy ttTannotationcopied3 ttTannotationcopied4 (List Term):=zh6 zu x.2.1 x.2.2.1 x.2.2.2.1 y.1
def ztl (zu:Atom→Bool×Atom) (n:Nat) (t8:List Term) (t9:Int) (t10:Int) (out_:List Term):Bool×List Term:=zN (zkk zu) default n ((),t8,t9,t10,()) (out_,())
def zsv (r:List Term):LTree ty:=.done (.exit 0) [.own 168] [.arr 42 r false]
def zty:LL ty ttTannotationcopied3:=za (lOwn 168) (za (lSl 42) (za (lInt .i64) (za (lInt .i64) zS)))
def zti:BL ty ttTannotationcopied4:=bArr 42 false (bNil)
def zsx (x:ttTannotationcopied0) (y:ttTannotationcopied1):Nat:=(x.2.2.2.1.length+Int.toNat x.2.2.2.2.1+Int.toNat x.2.2.2.2.2.1+Int.toNat x.2.2.2.2.2.2.1+Int.toNat x.2.2.2.2.2.2.2.1+y.1.length+y.2.1.Factors.length+y.2.2.1.length+1)
def zsi (x:ttTannotationcopied3) (y:ttTannotationcopied4):Nat:=(x.2.1.length+Int.toNat x.2.2.1+Int.toNat x.2.2.2.1+y.1.length+1)
def znM (zu:Atom→Bool×Atom):Cx ty:=mkCx base 42 [(117,zi1),(118,(zjK zu))] [] [(3,[(3,.own 42),(8,.keep),(9,.keep),(10,.keep)]),(7,[(3,.keep),(5,.keep),(6,.keep),(8,.keep),(9,.keep),(10,.keep),(18,.keep),(19,.keep)])] [(3,1,[(3,.keep)]),(7,3,[(3,.keep),(5,.keep),(6,.keep),(8,.keep),(9,.keep),(10,.keep)])] [(7,spW ztf zsZ (zkm zu) default zsk zsx),(3,spW zty zti (zkk zu) default zsv zsi)] []
theorem zBf (zu:Atom→Bool×Atom):zbp (znM zu) (lp (body Tryz.f61) 1):=zY (id:=7) (V:=ztf) (B:=zsZ) (W:=zkm zu) (z:=default) (tr:=zsk) (m:=zsx)
theorem zBk (zu:Atom→Bool×Atom):zbp (znM zu) (lp (body Tryz.f61) 0):=zY (id:=3) (V:=zty) (B:=zti) (W:=zkk zu) (z:=default) (tr:=zsv) (m:=zsi)
def zoF (zu:Atom→Bool×Atom) (a:List Term):Wy0 (List Term):=.bn (ztl zu (a.length+(Int.ofNat a.length).toNat +Int.toNat 0+0+1) a (Int.ofNat a.length) 0 []) fun r8=>.k r8
def zjX (zu:Atom→Bool×Atom) (a:List Term):Bool×List Term:=(zoF zu a).fin default
theorem zzy (zu:Atom→Bool×Atom) (zzx:Sound Tryz.prog base 118 (zjK zu)):Sound Tryz.prog base 61 (zjQ (zjX zu)):=
 zD (cx':=(znM zu)) zQ zB zL (zF ⟨zoW,zzx,trivial⟩) Tryz.call61 Tryz.func61 (c:=body Tryz.f61) (by kernel_rfl) (zj (l:=[lp (body Tryz.f61) 0,lp (body Tryz.f61) 1]) (by kernel_rfl) ⟨zBk zu,zBf zu,trivial⟩) (sg:=⟨[.own 42],[]⟩) (A:=zwp) (res:=zuo) (W:=fun x=>zoF zu x.1) (z:=default)
def zcz:Cx ty:={ base with nt:=8 }
def zcV (s:List (List Term)):Bool×List (List Term):=(decide (s.length*24≤zT),s)
def zgB:Ab.Spec ty:=zr (cx:=base) (zf (zg (vSl 23)) aNil) fun x=>((zcV x.1).1,⟨[.own 23 (zcV x.1).2],[]⟩)
theorem zm3:zh9 zcz Tryz.f159 (body Tryz.f159) ⟨[.own 23],[]⟩ [.pure (.lit (.slice none 0 0))]=some ⟨[.own 23 []],[]⟩:=by kernel_rfl
theorem zmA (p:Addr) (c:Nat):zh9 zcz Tryz.f159 (body Tryz.f159) ⟨[.own 23],[]⟩ [.pure (.lit (.slice (some p) 0 c))]=some ⟨[.own 23 []],[]⟩:=by kernel_rfl
theorem zmJ (l:List (List Term)):zh9 zcz Tryz.f159 (body Tryz.f159) ⟨[.own 23],[]⟩ [.pure (.sl 23 l)]=bif !l.isEmpty then bif decide ((([]:List (ty 23)).length+l.length)*24≤zT) then some ⟨[.own 23 l],[]⟩ else none else none:=by kernel_rfl
theorem zmv:Sound Tryz.prog base 159 zgB:=
 zCl (cx':=zcz) (bytes:=24) zQ zB ⟨⟨rfl,rfl,rfl,rfl,rfl,rfl⟩,rfl⟩ (fun g s h=>by cases h) Tryz.call159 Tryz.func159 (c:=body Tryz.f159) (by kernel_rfl) (zj (l:=[]) (by kernel_rfl) trivial) zm3 zmA zmJ (by kernel_rfl)
def zc7:Cx ty:={ base with nt:=8 }
def zdA (s:List Weighted):Bool×List Weighted:=(decide (s.length*56≤zT),s)
def zh0:Ab.Spec ty:=zr (cx:=base) (zf (zg (vSl 52)) aNil) fun x=>((zdA x.1).1,⟨[.own 52 (zdA x.1).2],[]⟩)
theorem zod:zh9 zc7 Tryz.f160 (body Tryz.f160) ⟨[.own 52],[]⟩ [.pure (.lit (.slice none 0 0))]=some ⟨[.own 52 []],[]⟩:=by kernel_rfl
theorem znw (p:Addr) (c:Nat):zh9 zc7 Tryz.f160 (body Tryz.f160) ⟨[.own 52],[]⟩ [.pure (.lit (.slice (some p) 0 c))]=some ⟨[.own 52 []],[]⟩:=by kernel_rfl
theorem znT (l:List Weighted):zh9 zc7 Tryz.f160 (body Tryz.f160) ⟨[.own 52],[]⟩ [.pure (.sl 52 l)]=bif !l.isEmpty then bif decide ((([]:List (ty 52)).length+l.length)*56≤zT) then some ⟨[.own 52 l],[]⟩ else none else none:=by kernel_rfl
theorem znF:Sound Tryz.prog base 160 zh0:=
 zCl (cx':=zc7) (bytes:=56) zQ zB ⟨⟨rfl,rfl,rfl,rfl,rfl,rfl⟩,rfl⟩ (fun g s h=>by cases h) Tryz.call160 Tryz.func160 (c:=body Tryz.f160) (by kernel_rfl) (zj (l:=[]) (by kernel_rfl) trivial) zod znw znT (by kernel_rfl)
abbrev ttTannotationcopiedAtom0:=Unit×Unit×Int×Int×Unit
abbrev ttTannotationcopiedAtom1:=(Int×Int×Int×Unit×Int×List Weighted×Int×Int×Int×ByteArray×Unit)×(Int×Int×Int×Unit×Int×Unit×Int×Int×Int×ByteArray×Unit)×List (List Term)×Unit
abbrev ttTannotationcopiedAtom2:=Int×Int×Int×Int×List Weighted×Int×Int×Int×ByteArray×Int×Int×Int×Int×Int×Int×Int×ByteArray×List (List Term)
abbrev ttTannotationcopiedAtom3:=(Int×Int×Int×Unit×Int×Unit×Int×Int×Int×ByteArray×Unit)×(Int×Int×Int×Unit×Int×Unit×Int×Int×Int×ByteArray×Unit)×List (List Term)×List Weighted×Unit
abbrev ttTannotationcopiedAtom4:=Int×Int×Int×Int×Int×Int×Int×ByteArray×Int×Int×Int×Int×Int×Int×Int×ByteArray×List (List Term)×List Weighted
def ze9 (zG:List Term→Bool×List Term) (t11:Int) (t12:Int) (x_0:Int) (x_1:Int) (x_2:Int) (x_3:Int) (x_4:List Weighted) (x_5:Int) (x_6:Int) (x_7:Int) (x_8:ByteArray) (t2_0:Int) (t2_1:Int) (t2_2:Int) (t2_3:Int) (t2_4:Int) (t2_5:Int) (t2_6:Int) (t2_7:ByteArray) (b2:List (List Term)):Wy ttTannotationcopiedAtom0 ttTannotationcopiedAtom1 ttTannotationcopiedAtom2:=.i (decide (t12<t11)) (.i (decide (0≤t12)&&decide (t12<Int.ofNat b2.length)) (.bn (zG (b2.getD t12.toNat default)) fun r0=>.i (decide (0≤t12)&&decide (t12<Int.ofNat b2.length)) (.i (decide (t12.toNat<b2.length)) (.h ((),(),t11,(IntKind.i64.wrap (t12+1)),()) ((x_0,x_1,x_2,(),x_3,x_4,x_5,x_6,x_7,x_8,()),(t2_0,t2_1,t2_2,(),t2_3,(),t2_4,t2_5,t2_6,t2_7,()),(b2.set t12.toNat r0),())) .d) .d) .d) (.k (x_0,x_1,x_2,x_3,x_4,x_5,x_6,x_7,x_8,t2_0,t2_1,t2_2,t2_3,t2_4,t2_5,t2_6,t2_7,b2))
def zie (zG:List Term→Bool×List Term) (x:ttTannotationcopiedAtom0) (y:ttTannotationcopiedAtom1):Wy ttTannotationcopiedAtom0 ttTannotationcopiedAtom1 ttTannotationcopiedAtom2:=ze9 zG x.2.2.1 x.2.2.2.1 y.1.1 y.1.2.1 y.1.2.2.1 y.1.2.2.2.2.1 y.1.2.2.2.2.2.1 y.1.2.2.2.2.2.2.1 y.1.2.2.2.2.2.2.2.1 y.1.2.2.2.2.2.2.2.2.1 y.1.2.2.2.2.2.2.2.2.2.1 y.2.1.1 y.2.1.2.1 y.2.1.2.2.1 y.2.1.2.2.2.2.1 y.2.1.2.2.2.2.2.2.1 y.2.1.2.2.2.2.2.2.2.1 y.2.1.2.2.2.2.2.2.2.2.1 y.2.1.2.2.2.2.2.2.2.2.2.1 y.2.2.1
def zpS (zG:List Term→Bool×List Term) (n:Nat) (t11:Int) (t12:Int) (x_0:Int) (x_1:Int) (x_2:Int) (x_3:Int) (x_4:List Weighted) (x_5:Int) (x_6:Int) (x_7:Int) (x_8:ByteArray) (t2_0:Int) (t2_1:Int) (t2_2:Int) (t2_3:Int) (t2_4:Int) (t2_5:Int) (t2_6:Int) (t2_7:ByteArray) (b2:List (List Term)):Bool×ttTannotationcopiedAtom2:=zN (zie zG) default n ((),(),t11,t12,()) ((x_0,x_1,x_2,(),x_3,x_4,x_5,x_6,x_7,x_8,()),(t2_0,t2_1,t2_2,(),t2_3,(),t2_4,t2_5,t2_6,t2_7,()),b2,())
def zpc (r:ttTannotationcopiedAtom2):LTree ty:=.done (.exit 0) [.ptr 200 0,.ptr 201 0] [.box ([.lit (.int .i64 r.1),.lit (.int .i64 r.2.1),.lit (.int .i64 r.2.2.1),.own 202,.lit (.int .i64 r.2.2.2.1),.sl 52 r.2.2.2.2.1,.lit (.int .i64 r.2.2.2.2.2.1),.lit (.int .i64 r.2.2.2.2.2.2.1),.lit (.int .i64 r.2.2.2.2.2.2.2.1),.lit (.string r.2.2.2.2.2.2.2.2.1)]) false,.box ([.lit (.int .i64 r.2.2.2.2.2.2.2.2.2.1),.lit (.int .i64 r.2.2.2.2.2.2.2.2.2.2.1),.lit (.int .i64 r.2.2.2.2.2.2.2.2.2.2.2.1),.lit (.slice none 0 0),.lit (.int .i64 r.2.2.2.2.2.2.2.2.2.2.2.2.1),.lit (.slice none 0 0),.lit (.int .i64 r.2.2.2.2.2.2.2.2.2.2.2.2.2.1),.lit (.int .i64 r.2.2.2.2.2.2.2.2.2.2.2.2.2.2.1),.lit (.int .i64 r.2.2.2.2.2.2.2.2.2.2.2.2.2.2.2.1),.lit (.string r.2.2.2.2.2.2.2.2.2.2.2.2.2.2.2.2.1)]) false,.arr 23 r.2.2.2.2.2.2.2.2.2.2.2.2.2.2.2.2.2 false]
def zpG:LL ty ttTannotationcopiedAtom0:=za (zqQ 200 0) (za (zqQ 201 0) (za (lInt .i64) (za (lInt .i64) zS)))
def zpZ:BL ty ttTannotationcopiedAtom1:=bBox (za (lInt .i64) (za (lInt .i64) (za (lInt .i64) (za (lOwn 202) (za (lInt .i64) (za (lSl 52) (za (lInt .i64) (za (lInt .i64) (za (lInt .i64) (za lStr zS)))))))))) false (bBox (za (lInt .i64) (za (lInt .i64) (za (lInt .i64) (za lNil (za (lInt .i64) (za lNil (za (lInt .i64) (za (lInt .i64) (za (lInt .i64) (za lStr zS)))))))))) false (bArr 23 false (bNil)))
def zff (zG:List Term→Bool×List Term) (t32:Int) (t33:Int) (x_0:Int) (x_1:Int) (x_2:Int) (x_3:Int) (x_4:Int) (x_5:Int) (x_6:Int) (x_7:ByteArray) (t2_0:Int) (t2_1:Int) (t2_2:Int) (t2_3:Int) (t2_4:Int) (t2_5:Int) (t2_6:Int) (t2_7:ByteArray) (b2:List (List Term)) (b3:List Weighted):Wy ttTannotationcopiedAtom0 ttTannotationcopiedAtom3 ttTannotationcopiedAtom4:=.i (decide (t33<t32)) (.i (decide (0≤t33)&&decide (t33<Int.ofNat b3.length)) (.bn (zG (b3.getD t33.toNat default).Ann) fun r2=>.i (decide (0≤t33)&&decide (t33<Int.ofNat b3.length)) (.i (decide (t33.toNat<b3.length)) (.h ((),(),t32,(IntKind.i64.wrap (t33+1)),()) ((x_0,x_1,x_2,(),x_3,(),x_4,x_5,x_6,x_7,()),(t2_0,t2_1,t2_2,(),t2_3,(),t2_4,t2_5,t2_6,t2_7,()),b2,(b3.set t33.toNat (WeightedOf.mk (b3.getD t33.toNat default).Value r2)),())) .d) .d) .d) (.k (x_0,x_1,x_2,x_3,x_4,x_5,x_6,x_7,t2_0,t2_1,t2_2,t2_3,t2_4,t2_5,t2_6,t2_7,b2,b3))
def zh8 (zG:List Term→Bool×List Term) (x:ttTannotationcopiedAtom0) (y:ttTannotationcopiedAtom3):Wy ttTannotationcopiedAtom0 ttTannotationcopiedAtom3 ttTannotationcopiedAtom4:=zff zG x.2.2.1 x.2.2.2.1 y.1.1 y.1.2.1 y.1.2.2.1 y.1.2.2.2.2.1 y.1.2.2.2.2.2.2.1 y.1.2.2.2.2.2.2.2.1 y.1.2.2.2.2.2.2.2.2.1 y.1.2.2.2.2.2.2.2.2.2.1 y.2.1.1 y.2.1.2.1 y.2.1.2.2.1 y.2.1.2.2.2.2.1 y.2.1.2.2.2.2.2.2.1 y.2.1.2.2.2.2.2.2.2.1 y.2.1.2.2.2.2.2.2.2.2.1 y.2.1.2.2.2.2.2.2.2.2.2.1 y.2.2.1 y.2.2.2.1
def zpQ (zG:List Term→Bool×List Term) (n:Nat) (t32:Int) (t33:Int) (x_0:Int) (x_1:Int) (x_2:Int) (x_3:Int) (x_4:Int) (x_5:Int) (x_6:Int) (x_7:ByteArray) (t2_0:Int) (t2_1:Int) (t2_2:Int) (t2_3:Int) (t2_4:Int) (t2_5:Int) (t2_6:Int) (t2_7:ByteArray) (b2:List (List Term)) (b3:List Weighted):Bool×ttTannotationcopiedAtom4:=zN (zh8 zG) default n ((),(),t32,t33,()) ((x_0,x_1,x_2,(),x_3,(),x_4,x_5,x_6,x_7,()),(t2_0,t2_1,t2_2,(),t2_3,(),t2_4,t2_5,t2_6,t2_7,()),b2,b3,())
def zo3 (r:ttTannotationcopiedAtom4):LTree ty:=.done (.exit 2) [.ptr 200 0,.ptr 201 0] [.box ([.lit (.int .i64 r.1),.lit (.int .i64 r.2.1),.lit (.int .i64 r.2.2.1),.own 202,.lit (.int .i64 r.2.2.2.1),.own 203,.lit (.int .i64 r.2.2.2.2.1),.lit (.int .i64 r.2.2.2.2.2.1),.lit (.int .i64 r.2.2.2.2.2.2.1),.lit (.string r.2.2.2.2.2.2.2.1)]) false,.box ([.lit (.int .i64 r.2.2.2.2.2.2.2.2.1),.lit (.int .i64 r.2.2.2.2.2.2.2.2.2.1),.lit (.int .i64 r.2.2.2.2.2.2.2.2.2.2.1),.lit (.slice none 0 0),.lit (.int .i64 r.2.2.2.2.2.2.2.2.2.2.2.1),.lit (.slice none 0 0),.lit (.int .i64 r.2.2.2.2.2.2.2.2.2.2.2.2.1),.lit (.int .i64 r.2.2.2.2.2.2.2.2.2.2.2.2.2.1),.lit (.int .i64 r.2.2.2.2.2.2.2.2.2.2.2.2.2.2.1),.lit (.string r.2.2.2.2.2.2.2.2.2.2.2.2.2.2.2.1)]) false,.arr 23 r.2.2.2.2.2.2.2.2.2.2.2.2.2.2.2.2.1 false,.arr 52 r.2.2.2.2.2.2.2.2.2.2.2.2.2.2.2.2.2 false]
def zp8:LL ty ttTannotationcopiedAtom0:=za (zqQ 200 0) (za (zqQ 201 0) (za (lInt .i64) (za (lInt .i64) zS)))
def zp2:BL ty ttTannotationcopiedAtom3:=bBox (za (lInt .i64) (za (lInt .i64) (za (lInt .i64) (za (lOwn 202) (za (lInt .i64) (za (lOwn 203) (za (lInt .i64) (za (lInt .i64) (za (lInt .i64) (za lStr zS)))))))))) false (bBox (za (lInt .i64) (za (lInt .i64) (za (lInt .i64) (za lNil (za (lInt .i64) (za lNil (za (lInt .i64) (za (lInt .i64) (za (lInt .i64) (za lStr zS)))))))))) false (bArr 23 false (bArr 52 false (bNil))))
def zo7 (x:ttTannotationcopiedAtom0) (y:ttTannotationcopiedAtom1):Nat:=(Int.toNat x.2.2.1+Int.toNat x.2.2.2.1+Int.toNat y.1.1+Int.toNat y.1.2.1+Int.toNat y.1.2.2.1+Int.toNat y.1.2.2.2.2.1+y.1.2.2.2.2.2.1.length+Int.toNat y.1.2.2.2.2.2.2.1+Int.toNat y.1.2.2.2.2.2.2.2.1+Int.toNat y.1.2.2.2.2.2.2.2.2.1+y.1.2.2.2.2.2.2.2.2.2.1.size+Int.toNat y.2.1.1+Int.toNat y.2.1.2.1+Int.toNat y.2.1.2.2.1+Int.toNat y.2.1.2.2.2.2.1+Int.toNat y.2.1.2.2.2.2.2.2.1+Int.toNat y.2.1.2.2.2.2.2.2.2.1+Int.toNat y.2.1.2.2.2.2.2.2.2.2.1+y.2.1.2.2.2.2.2.2.2.2.2.1.size+y.2.2.1.length+1)
def zo6 (x:ttTannotationcopiedAtom0) (y:ttTannotationcopiedAtom3):Nat:=(Int.toNat x.2.2.1+Int.toNat x.2.2.2.1+Int.toNat y.1.1+Int.toNat y.1.2.1+Int.toNat y.1.2.2.1+Int.toNat y.1.2.2.2.2.1+Int.toNat y.1.2.2.2.2.2.2.1+Int.toNat y.1.2.2.2.2.2.2.2.1+Int.toNat y.1.2.2.2.2.2.2.2.2.1+y.1.2.2.2.2.2.2.2.2.2.1.size+Int.toNat y.2.1.1+Int.toNat y.2.1.2.1+Int.toNat y.2.1.2.2.1+Int.toNat y.2.1.2.2.2.2.1+Int.toNat y.2.1.2.2.2.2.2.2.1+Int.toNat y.2.1.2.2.2.2.2.2.2.1+Int.toNat y.2.1.2.2.2.2.2.2.2.2.1+y.2.1.2.2.2.2.2.2.2.2.2.1.size+y.2.2.1.length+y.2.2.2.1.length+1)
def zli (zG:List Term→Bool×List Term):Cx ty:=mkCx base 50 [(61,(zjQ zG)),(159,zgB),(160,zh0)] [] [(3,[(1,.keep),(2,.keep),(11,.keep),(12,.keep)]),(9,[(1,.keep),(2,.keep),(32,.keep),(33,.keep)])] [(3,1,[(1,.keep),(2,.keep)]),(9,3,[(1,.keep),(2,.keep)])] [(3,spW zpG zpZ (zie zG) default zpc zo7),(9,spW zp8 zp2 (zh8 zG) default zo3 zo6)] []
theorem zxv (zG:List Term→Bool×List Term):zbp (zli zG) (lp (body Tryz.f118) 0):=zY (id:=3) (V:=zpG) (B:=zpZ) (W:=zie zG) (z:=default) (tr:=zpc) (m:=zo7)
theorem zxH (zG:List Term→Bool×List Term):zbp (zli zG) (lp (body Tryz.f118) 1):=zY (id:=9) (V:=zp8) (B:=zp2) (W:=zh8 zG) (z:=default) (tr:=zo3) (m:=zo6)
def zl1 (zG:List Term→Bool×List Term) (x_:Atom):Wy0 (Atom):=.bn (zcV x_.Args) fun r7=>.bn (zpS zG ((Int.ofNat r7.length).toNat +Int.toNat 0+x_.Kind.toNat +x_.Row.Table.toNat +x_.Row.Seq.toNat +x_.Func.toNat +x_.Items.length+x_.Op.toNat +x_.Bound.Kind.toNat +x_.Bound.Int.toNat +x_.Bound.Text.size+Int.toNat 0+Int.toNat 0+Int.toNat 0+Int.toNat 0+Int.toNat 0+Int.toNat 0+Int.toNat 0+(ByteArray.mk #[]).size+r7.length+1) (Int.ofNat r7.length) 0 x_.Kind x_.Row.Table x_.Row.Seq x_.Func x_.Items x_.Op x_.Bound.Kind x_.Bound.Int x_.Bound.Text 0 0 0 0 0 0 0 (ByteArray.mk #[]) r7) fun r6=>.bn (zdA r6.2.2.2.2.1) fun r5=>.bn (zpQ zG ((Int.ofNat r5.length).toNat +Int.toNat 0+r6.1.toNat +r6.2.1.toNat +r6.2.2.1.toNat +r6.2.2.2.1.toNat +r6.2.2.2.2.2.1.toNat +r6.2.2.2.2.2.2.1.toNat +r6.2.2.2.2.2.2.2.1.toNat +r6.2.2.2.2.2.2.2.2.1.size+r6.2.2.2.2.2.2.2.2.2.1.toNat +r6.2.2.2.2.2.2.2.2.2.2.1.toNat +r6.2.2.2.2.2.2.2.2.2.2.2.1.toNat +r6.2.2.2.2.2.2.2.2.2.2.2.2.1.toNat +r6.2.2.2.2.2.2.2.2.2.2.2.2.2.1.toNat +r6.2.2.2.2.2.2.2.2.2.2.2.2.2.2.1.toNat +r6.2.2.2.2.2.2.2.2.2.2.2.2.2.2.2.1.toNat +r6.2.2.2.2.2.2.2.2.2.2.2.2.2.2.2.2.1.size+r6.2.2.2.2.2.2.2.2.2.2.2.2.2.2.2.2.2.length+r5.length+1) (Int.ofNat r5.length) 0 r6.1 r6.2.1 r6.2.2.1 r6.2.2.2.1 r6.2.2.2.2.2.1 r6.2.2.2.2.2.2.1 r6.2.2.2.2.2.2.2.1 r6.2.2.2.2.2.2.2.2.1 r6.2.2.2.2.2.2.2.2.2.1 r6.2.2.2.2.2.2.2.2.2.2.1 r6.2.2.2.2.2.2.2.2.2.2.2.1 r6.2.2.2.2.2.2.2.2.2.2.2.2.1 r6.2.2.2.2.2.2.2.2.2.2.2.2.2.1 r6.2.2.2.2.2.2.2.2.2.2.2.2.2.2.1 r6.2.2.2.2.2.2.2.2.2.2.2.2.2.2.2.1 r6.2.2.2.2.2.2.2.2.2.2.2.2.2.2.2.2.1 r6.2.2.2.2.2.2.2.2.2.2.2.2.2.2.2.2.2 r5) fun r4=>.k (⟨r4.1,(⟨r4.2.1,r4.2.2.1⟩:RowID),r4.2.2.2.2.2.2.2.2.2.2.2.2.2.2.2.2.1,r4.2.2.2.1,r4.2.2.2.2.2.2.2.2.2.2.2.2.2.2.2.2.2,r4.2.2.2.2.1,(⟨r4.2.2.2.2.2.1,r4.2.2.2.2.2.2.1,r4.2.2.2.2.2.2.2.1⟩:Value)⟩:Atom)
def zhl (zG:List Term→Bool×List Term) (x_:Atom):Bool×Atom:=(zl1 zG x_).fin default
theorem zvW (zG:List Term→Bool×List Term) (zCT:Sound Tryz.prog base 61 (zjQ zG)):Sound Tryz.prog base 118 (zjK (zhl zG)):=
 zD (cx':=(zli zG)) zQ zB zL (zF ⟨zCT,zmv,znF,trivial⟩) Tryz.call118 Tryz.func118 (c:=body Tryz.f118) (by kernel_rfl) (zj (l:=[lp (body Tryz.f118) 0,lp (body Tryz.f118) 1]) (by kernel_rfl) ⟨zxv zG,zxH zG,trivial⟩) (sg:=⟨[.pure],[]⟩) (A:=zsl) (res:=zqv) (W:=fun x=>zl1 zG x.1) (z:=default)
def zzn:Nat→(List Term→Bool×List Term)×(Atom→Bool×Atom)
 | 0=>(fun _=>(false,default),fun _=>(false,default))
 | n+1=>(zjX ((zzn n).2),zhl ((zzn n).1))
def zjZ (n:Nat):List Term→Bool×List Term:=(zzn n).1
def zjO (n:Nat):Atom→Bool×Atom:=(zzn n).2
theorem zB0 (n:Nat):zjZ (n+1)=zjX (zjO n):=rfl
theorem zyp (n:Nat):zjO (n+1)=zhl (zjZ n):=rfl
theorem zE0:∀ n,Sound Tryz.prog base 61 (zjQ (zjZ n))∧Sound Tryz.prog base 118 (zjK (zjO n))
 | 0=>⟨zbB Tryz.call61 (fun _=>rfl),zbB Tryz.call118 (fun _=>rfl)⟩
 | n+1=>by
  have ih:=zE0 n
  exact ⟨zzy _ (ih.2),zvW _ (ih.1)⟩
def zfv:List Term→Bool×List Term:=zjZ 1000
def annotation_copied_spec:Ab.Spec ty:=zjQ zfv
theorem zhn:Sound Tryz.prog base 61 annotation_copied_spec:=(zE0 1000).1
def zCq:Cx ty:=mkCx base 9 [(61,annotation_copied_spec),(70,znR)] [] [] [] [] []
def zpE (a:List Term):Wy0 (List Term×Int):=.bn (zjq a) fun r1=>.i (!r1) (.k ([],6)) (.bn (zfv a) fun r0=>.k (r0,0))
def zdq (a:List Term):Bool×(List Term×Int):=(zpE a).fin default
def ztu (r:List Term×Int):ARes ty:=⟨[.own 42 r.1,.pure (.lit (.int .i64 r.2))],[]⟩
def zuS:AL base (List Term×Unit):=zf (zg (vSl 42)) aNil
def zdU:Ab.Spec ty:=zr zuS fun x=>((zdq x.1).1,ztu (zdq x.1).2)
theorem zeu:Sound Tryz.prog base 53 zdU:=
 zD (cx':=zCq) zQ zB zL (zF ⟨zhn,zsw,trivial⟩) Tryz.call53 Tryz.func53 (c:=body Tryz.f53) (by kernel_rfl) (zj (l:=[]) (by kernel_rfl) trivial) (sg:=⟨[.own 42,.pure],[]⟩) (A:=zuS) (res:=ztu) (W:=fun x=>zpE x.1) (z:=default)
def zDy:Cx ty:=mkCx base 8 [] [] [] [] [] []
def zqi (x_:Atom):Wy0 (List Term):=.k [TermOf.mk 1 [FactorOf.mk (Atom.mk x_.Kind x_.Row x_.Args x_.Func x_.Items x_.Op x_.Bound) 1]]
def zem (x_:Atom):Bool×List Term:=(zqi x_).fin default
def zup (r:List Term):ARes ty:=⟨[.own 42 r],[]⟩
def zwo:AL base (Atom×Unit):=zf (zg (vAgg 48)) aNil
def zfl:Ab.Spec ty:=zr zwo fun x=>((zem x.1).1,zup (zem x.1).2)
theorem zhm:Sound Tryz.prog base 62 zfl:=
 zD (cx':=zDy) zQ zB zL (zF trivial) Tryz.call62 Tryz.func62 (c:=body Tryz.f62) (by kernel_rfl) (zj (l:=[]) (by kernel_rfl) trivial) (sg:=⟨[.own 42],[]⟩) (A:=zwo) (res:=zup) (W:=fun x=>zqi x.1) (z:=default)
def zDI:Cx ty:=mkCx base 23 [(29,zjT),(31,annotation_Valid_spec),(53,zdU),(62,zfl),(68,zkN)] [] [] [] [] []
def zqn (a:List Term):Wy0 (List Term×Int):=.bn (zbK a) fun r2=>.i (!r2) (.k ([],1)) (.i (Int.ofNat a.length==0) (.k (zkb.2,0)) (.bn (zd0 a) fun r1=>.i (r1) (.k ([],0)) (.bn (zdq (zem (Atom.mk 3 (RowID.mk 0 0) [a] 0 [] 0 (Value.mk 0 0 (ByteArray.mk #[])))).2) fun r0=>.k (r0.1,r0.2))))
def zjo (a:List Term):Bool×(List Term×Int):=(zqn a).fin default
def zuE (r:List Term×Int):ARes ty:=⟨[.own 42 r.1,.pure (.lit (.int .i64 r.2))],[]⟩
def zvY:AL base (List Term×Unit):=zf (zg (vSl 42)) aNil
def znQ:Ab.Spec ty:=zr zvY fun x=>((zjo x.1).1,zuE (zjo x.1).2)
theorem zsA:Sound Tryz.prog base 22 znQ:=
 zD (cx':=zDI) zQ zB zL (zF ⟨zlN,zcm,zeu,zhm,zow,trivial⟩) Tryz.call22 Tryz.func22 (c:=body Tryz.f22) (by kernel_rfl) (zj (l:=[]) (by kernel_rfl) trivial) (sg:=⟨[.own 42,.pure],[]⟩) (A:=zvY) (res:=zuE) (W:=fun x=>zqn x.1) (z:=default)
def zEw:Cx ty:=mkCx base 29 [(29,zjT),(31,annotation_Valid_spec),(53,zdU),(61,annotation_copied_spec),(62,zfl),(64,znK),(65,zlg)] [] [] [] [] []
def zrt (a:List Term):Wy0 (List Term×Int):=.bn (zbK a) fun r5=>.i (!r5) (.k ([],1)) (.i (Int.ofNat a.length==0) (.bn (zfv a) fun r0=>.k (r0,0)) (.bn (zjn a) fun r4=>.i (r4) (.bn (zfv a) fun r1=>.k (r1,0)) (.bn (zgf a) fun r3=>.i (r3) (.k (zkb.2,0)) (.bn (zdq (zem (Atom.mk 2 (RowID.mk 0 0) [a] 0 [] 0 (Value.mk 0 0 (ByteArray.mk #[])))).2) fun r2=>.k (r2.1,r2.2)))))
def zik (a:List Term):Bool×(List Term×Int):=(zrt a).fin default
def zuM (r:List Term×Int):ARes ty:=⟨[.own 42 r.1,.pure (.lit (.int .i64 r.2))],[]⟩
def zyh:AL base (List Term×Unit):=zf (zg (vSl 42)) aNil
def zk5:Ab.Spec ty:=zr zyh fun x=>((zik x.1).1,zuM (zik x.1).2)
theorem znN:Sound Tryz.prog base 20 zk5:=
 zD (cx':=zEw) zQ zB zL (zF ⟨zlN,zcm,zeu,zhn,zhm,zsp,zpi,trivial⟩) Tryz.call20 Tryz.func20 (c:=body Tryz.f20) (by kernel_rfl) (zj (l:=[]) (by kernel_rfl) trivial) (sg:=⟨[.own 42,.pure],[]⟩) (A:=zyh) (res:=zuM) (W:=fun x=>zrt x.1) (z:=default)
def zEI:Cx ty:=mkCx base 38 [(31,annotation_Valid_spec),(32,zkR),(53,zdU),(61,annotation_copied_spec),(62,zfl)] [] [] [] [] []
def zq9 (a:List Term) (b:List Term):Wy0 (List Term×Int):=.bn (zbK a) fun r4=>.i (!r4) (.k ([],1)) (.bn (zbK b) fun r3=>.i (!r3) (.k ([],1)) (.i (Int.ofNat b.length==0) (.bn (zfv a) fun r0=>.k (r0,0)) (.i (Int.ofNat a.length==0) (.k ([],0)) (.bn (zca a b) fun r2=>.i (r2) (.k ([],0)) (.bn (zdq (zem (Atom.mk 1 (RowID.mk 0 0) [a,b] 0 [] 0 (Value.mk 0 0 (ByteArray.mk #[])))).2) fun r1=>.k (r1.1,r1.2))))))
def ze1 (a:List Term) (b:List Term):Bool×(List Term×Int):=(zq9 a b).fin default
def zvl (r:List Term×Int):ARes ty:=⟨[.own 42 r.1,.pure (.lit (.int .i64 r.2))],[]⟩
def zx2:AL base (List Term×List Term×Unit):=zf (zg (vSl 42)) (zf (zg (vSl 42)) aNil)
def zk8:Ab.Spec ty:=zr zx2 fun x=>((ze1 x.1 x.2.1).1,zvl (ze1 x.1 x.2.1).2)
theorem znX:Sound Tryz.prog base 18 zk8:=
 zD (cx':=zEI) zQ zB zL (zF ⟨zcm,znZ,zeu,zhn,zhm,trivial⟩) Tryz.call18 Tryz.func18 (c:=body Tryz.f18) (by kernel_rfl) (zj (l:=[]) (by kernel_rfl) trivial) (sg:=⟨[.own 42,.pure],[]⟩) (A:=zx2) (res:=zvl) (W:=fun x=>zq9 x.1 x.2.1) (z:=default)
def zuY (k:Go.Value) (l:List (Go.Value×Int)):Option Int:=mget (ty:=ty) (V:=3) k l
def zNn (k:Go.Value) (l:List (Go.Value×Int)):Bool:=mhas (ty:=ty) (V:=3) k l
def zNb (k:Go.Value) (x:Int) (l:List (Go.Value×Int)):List (Go.Value×Int):=mset (ty:=ty) (V:=3) k x l
def zwc (r:ByteArray):ARes ty:=⟨[.pure (.lit (.string r))],[]⟩
def zy1:AL base0 (List Term×Unit):=zf (zg (vSl 42)) aNil
def zll (F:List Term→Bool×ByteArray):Ab.Spec ty:=zr zy1 fun x=>((F x.1).1,zwc (F x.1).2)
def zqE (r:ByteArray):ARes ty:=⟨[.pure (.lit (.string r))],[]⟩
def zsC:AL base0 (Atom×Unit):=zf (zg (vAgg 48)) aNil
def zjL (F:Atom→Bool×ByteArray):Ab.Spec ty:=zr zsC fun x=>((F x.1).1,zqE (F x.1).2)
def zoO (r:ByteArray):ARes ty:=⟨[.pure (.lit (.string r))],[]⟩
def zpK:AL base0 (List Factor×Unit):=zf (zg (vSl 50)) aNil
def zfa (F:List Factor→Bool×ByteArray):Ab.Spec ty:=zr zpK fun x=>((F x.1).1,zoO (F x.1).2)
def zBg:Cx ty:=mkCx base 2 [] [] [] [] [] []
def zs0:Wy0 (List ByteArray):=.k [ByteArray.mk #[(67:UInt8),(79:UInt8),(85:UInt8),(78:UInt8),(84:UInt8)],ByteArray.mk #[(83:UInt8),(85:UInt8),(77:UInt8)],ByteArray.mk #[(77:UInt8),(73:UInt8),(78:UInt8)],ByteArray.mk #[(77:UInt8),(65:UInt8),(88:UInt8)]]
def zbG:Bool×List ByteArray:=(zs0).fin default
def zrf (r:List ByteArray):ARes ty:=⟨[.own 9 r],[]⟩
def zs5:AL base (Unit):=aNil
def zqF:Ab.Spec ty:=zr zs5 fun x=>((zbG ).1,zrf (zbG ).2)
theorem zyI:Sound Tryz.prog base 174 zqF:=
 zD (cx':=zBg) zQ zB zL (zF trivial) Tryz.call174 Tryz.func174 (c:=body Tryz.f174) (by kernel_rfl) (zj (l:=[]) (by kernel_rfl) trivial) (sg:=⟨[.own 9],[]⟩) (A:=zs5) (res:=zrf) (W:=fun x=>zs0 ) (z:=default)
def zA9:Cx ty:=mkCx base 2 [] [] [] [] [] []
def zs7:Wy0 (List ByteArray):=.k [ByteArray.mk #[(61:UInt8)],ByteArray.mk #[(60:UInt8),(62:UInt8)],ByteArray.mk #[(60:UInt8)],ByteArray.mk #[(60:UInt8),(61:UInt8)],ByteArray.mk #[(62:UInt8)],ByteArray.mk #[(62:UInt8),(61:UInt8)]]
def zcL:Bool×List ByteArray:=(zs7).fin default
def zrK (r:List ByteArray):ARes ty:=⟨[.own 9 r],[]⟩
def ztk:AL base (Unit):=aNil
def zqD:Ab.Spec ty:=zr ztk fun x=>((zcL ).1,zrK (zcL ).2)
theorem zyq:Sound Tryz.prog base 175 zqD:=
 zD (cx':=zA9) zQ zB zL (zF trivial) Tryz.call175 Tryz.func175 (c:=body Tryz.f175) (by kernel_rfl) (zj (l:=[]) (by kernel_rfl) trivial) (sg:=⟨[.own 9],[]⟩) (A:=ztk) (res:=zrK) (W:=fun x=>zs7 ) (z:=default)
def strings_Join (l:List ByteArray) (sep:ByteArray):Bool×ByteArray:=zF1 l sep
def strings_Join_spec:Ab.Spec ty:=zr (cx:=base0) (zf (zg (vSl 9)) (zf (zg vStr) aNil)) fun x=>((strings_Join x.1 x.2.1).1,⟨[.pure (.lit (.string (strings_Join x.1 x.2.1).2))],[]⟩)
theorem zrJ:Sound Tryz.prog base0 152 strings_Join_spec:=zNf (T:=9) zim rfl Go.Proofs.Tryz.lays156 Go.Proofs.Tryz.Builder_Extra_156 Tryz.call152 (fun s:ByteArray=>s) (fun _=>rfl) strings_Join (fun l sep=>congrArg (fun l=>zF1 l sep) (List.map_id' (α:=ByteArray) l).symm)
def strconv_Itoa (x:Int):Bool×ByteArray:=zDr x
def strconv_Itoa_spec:Ab.Spec ty:=zr (cx:=base) (zf (zg (vInt .i64)) aNil) fun x=>((strconv_Itoa x.1).1,⟨[.pure (.lit (.string (strconv_Itoa x.1).2))],[]⟩)
theorem zxC:Sound Tryz.prog base 154 strconv_Itoa_spec:=zNa zB Go.Proofs.Tryz.laysM171 Tryz.call154 (fun _ h=>h.1)
def zGT:Cx ty:=mkCx base 15 [(69,zog),(154,strconv_Itoa_spec)] [] [] [] [] []
def zvw (id:RowID):Wy0 (ByteArray):=.bn (zmC id) fun r2=>.i (!r2) (.k (ByteArray.mk #[])) (.bn (strconv_Itoa id.Table) fun r1=>.i (decide ((ByteArray.mk #[(116:UInt8)]).size+r1.size≤9223372036854775807)) (.i (decide ((ByteArray.mk #[(116:UInt8)]++r1).size+(ByteArray.mk #[(46:UInt8)]).size≤9223372036854775807)) (.bn (strconv_Itoa id.Seq) fun r0=>.i (decide ((ByteArray.mk #[(116:UInt8)]++r1++ByteArray.mk #[(46:UInt8)]).size+r0.size≤9223372036854775807)) (.k (ByteArray.mk #[(116:UInt8)]++r1++ByteArray.mk #[(46:UInt8)]++r0)) .d) .d) .d)
def zpF (id:RowID):Bool×ByteArray:=(zvw id).fin default
def zy7 (r:ByteArray):ARes ty:=⟨[.pure (.lit (.string r))],[]⟩
def zBN:AL base (RowID×Unit):=zf (zg (vAgg 25)) aNil
def zxR:Ab.Spec ty:=zr zBN fun x=>((zpF x.1).1,zy7 (zpF x.1).2)
theorem zEF:Sound Tryz.prog base 172 zxR:=
 zD (cx':=zGT) zQ zB zL (zF ⟨zrA,zxC,trivial⟩) Tryz.call172 Tryz.func172 (c:=body Tryz.f172) (by kernel_rfl) (zj (l:=[]) (by kernel_rfl) trivial) (sg:=⟨[.pure],[]⟩) (A:=zBN) (res:=zy7) (W:=fun x=>zvw x.1) (z:=default)
def zhC (m b:Int):Bool×ByteArray:=zpw m b
def strconv_FormatInt_spec:Ab.Spec ty:=zr (cx:=base) (zf (zg (vInt .i64)) (zf (zg (vInt .i64)) aNil)) fun x=>((zhC x.1 x.2.1).1,⟨[.pure (.lit (.string (zhC x.1 x.2.1).2))],[]⟩)
theorem zsh:Sound Tryz.prog base 151 strconv_FormatInt_spec:=zHF zB Go.Proofs.Tryz.laysM173 Tryz.call151 (fun _ h=>h.1)
def strings_ReplaceAll (s p q:ByteArray):Bool×ByteArray:=zmg s p q
def strings_ReplaceAll_spec:Ab.Spec ty:=zr (cx:=base0) (zf (zg vStr) (zf (zg vStr) (zf (zg vStr) aNil))) fun x=>((strings_ReplaceAll x.1 x.2.1 x.2.2.1).1,⟨[.pure (.lit (.string (strings_ReplaceAll x.1 x.2.1 x.2.2.1).2))],[]⟩)
theorem zz6:Sound Tryz.prog base0 203 strings_ReplaceAll_spec:=zG5 zim rfl Go.Proofs.Tryz.lays155 Go.Proofs.Tryz.Builder_Extra_155 Tryz.call203 (fun _ h=>h.2)
def zHO:Cx ty:=mkCx base0 27 [(133,zpC),(151,strconv_FormatInt_spec),(203,strings_ReplaceAll_spec)] [] [] [] [] []
def zwt (v:Value):Wy0 (ByteArray):=.bn (znP v) fun r2=>.i (!r2) (.k (ByteArray.mk #[])) (.i (v.Kind==0) (.bn (zhC v.Int 10) fun r0=>.k r0) (.i (v.Kind==1) (.bn (strings_ReplaceAll v.Text (ByteArray.mk #[(39:UInt8)]) (ByteArray.mk #[(39:UInt8),(39:UInt8)])) fun r1=>.i (decide ((ByteArray.mk #[(39:UInt8)]).size+r1.size≤9223372036854775807)) (.i (decide ((ByteArray.mk #[(39:UInt8)]++r1).size+(ByteArray.mk #[(39:UInt8)]).size≤9223372036854775807)) (.k (ByteArray.mk #[(39:UInt8)]++r1++ByteArray.mk #[(39:UInt8)])) .d) .d) (.i (v.Int==1) (.k (ByteArray.mk #[(84:UInt8),(82:UInt8),(85:UInt8),(69:UInt8)])) (.k (ByteArray.mk #[(70:UInt8),(65:UInt8),(76:UInt8),(83:UInt8),(69:UInt8)])))))
def zoE (v:Value):Bool×ByteArray:=(zwt v).fin default
def zAX (r:ByteArray):ARes ty:=⟨[.pure (.lit (.string r))],[]⟩
def zCA:AL base0 (Value×Unit):=zf (zg (vAgg 46)) aNil
def zy0:Ab.Spec ty:=zr zCA fun x=>((zoE x.1).1,zAX (zoE x.1).2)
theorem zFe:Sound Tryz.prog base0 173 zy0:=
 zD (cx':=zHO) zQ zim zL (zF ⟨zsU.nodr,zsh.nodr,zz6,trivial⟩) Tryz.call173 Tryz.func173 (c:=body Tryz.f173) (by kernel_rfl) (zj (l:=[]) (by kernel_rfl) trivial) (sg:=⟨[.pure],[]⟩) (A:=zCA) (res:=zAX) (W:=fun x=>zwt x.1) (z:=default)
abbrev ttTannotationformatAtom0:=Unit×Unit×List Weighted×Int×Int×Unit
abbrev ttTannotationformatAtom1:=Atom×List ByteArray×Unit
abbrev ttTannotationformatAtom2:=Atom×List ByteArray
def zeO (zW:List Term→Bool×ByteArray) (t48:List Weighted) (t49:Int) (t50:Int) (x_:Atom) (items:List ByteArray):Wy ttTannotationformatAtom0 ttTannotationformatAtom1 ttTannotationformatAtom2:=.i (decide (t50<t49)) (.i (decide (0≤t50)&&decide (t50<Int.ofNat t48.length)) (.bn (zoE (t48.getD t50.toNat default).Value) fun r1=>.i (decide (r1.size+(ByteArray.mk #[(58:UInt8),(32:UInt8)]).size≤9223372036854775807)) (.bn (zW (t48.getD t50.toNat default).Ann) fun r0=>.i (decide ((r1++ByteArray.mk #[(58:UInt8),(32:UInt8)]).size+r0.size≤9223372036854775807)) (.i (decide ((items.length+[r1++ByteArray.mk #[(58:UInt8),(32:UInt8)]++r0].length)*16≤zT)) (.h ((),(),t48,t49,(IntKind.i64.wrap (t50+1)),()) (x_,(items++[r1++ByteArray.mk #[(58:UInt8),(32:UInt8)]++r0]),())) .d) .d) .d) .d) (.k (x_,items))
def zhW (zW:List Term→Bool×ByteArray) (x:ttTannotationformatAtom0) (y:ttTannotationformatAtom1):Wy ttTannotationformatAtom0 ttTannotationformatAtom1 ttTannotationformatAtom2:=zeO zW x.2.2.1 x.2.2.2.1 x.2.2.2.2.1 y.1 y.2.1
def zph (zW:List Term→Bool×ByteArray) (n:Nat) (t48:List Weighted) (t49:Int) (t50:Int) (x_:Atom) (items:List ByteArray):Bool×ttTannotationformatAtom2:=zN (zhW zW) default n ((),(),t48,t49,t50,()) (x_,items,())
def zoJ (r:ttTannotationformatAtom2):LTree ty:=.done (.exit 1) [.ptr 360 0,.own 361] [.box (base.enc 48 r.1) false,.arr 9 r.2 false]
def zo5:LL ty ttTannotationformatAtom0:=za (zqQ 360 0) (za (lOwn 361) (za (lSl 52) (za (lInt .i64) (za (lInt .i64) zS))))
def zpg:BL ty ttTannotationformatAtom1:=bBox (ztB (fun x=>(⟨x.1,⟨x.2.1,x.2.2.1⟩,x.2.2.2.1,x.2.2.2.2.1,x.2.2.2.2.2.1,x.2.2.2.2.2.2.1,⟨x.2.2.2.2.2.2.2.1,x.2.2.2.2.2.2.2.2.1,x.2.2.2.2.2.2.2.2.2.1⟩⟩:Atom)) (fun x=>(x.Kind,x.Row.Table,x.Row.Seq,x.Args,x.Func,x.Items,x.Op,x.Bound.Kind,x.Bound.Int,x.Bound.Text,())) (fun _=>rfl) (za (lInt .i64) (za (lInt .i64) (za (lInt .i64) (za (lSl 23) (za (lInt .i64) (za (lSl 52) (za (lInt .i64) (za (lInt .i64) (za (lInt .i64) (za lStr zS))))))))))) false (bArr 9 false (bNil))
def zoL (x:ttTannotationformatAtom0) (y:ttTannotationformatAtom1):Nat:=(x.2.2.1.length+Int.toNat x.2.2.2.1+Int.toNat x.2.2.2.2.1+y.1.Args.length+y.1.Items.length+y.2.1.length+1)
def zpL (zW:List Term→Bool×ByteArray):Cx ty:=mkCx base0 90 [(109,(zll zW)),(152,strings_Join_spec),(172,zxR),(173,zy0),(174,zqF),(175,zqD)] [] [(12,[(1,.keep),(3,.own 9),(48,.keep),(49,.keep),(50,.keep)])] [(12,2,[(1,.keep),(3,.keep)])] [(12,spW zo5 zpg (zhW zW) default zoJ zoL)] []
theorem zwy (zW:List Term→Bool×ByteArray):zbp (zpL zW) (lp (body Tryz.f153) 0):=zY (id:=12) (V:=zo5) (B:=zpg) (W:=zhW zW) (z:=default) (tr:=zoJ) (m:=zoL)
def zl5 (zW:List Term→Bool×ByteArray) (x_:Atom):Wy0 (ByteArray):=.i (x_.Kind==0) (.bn (zpF x_.Row) fun r4=>.k r4) (.i (x_.Kind==1) (.i (decide ((0:Int)≤(0:Int))&&decide (0<Int.ofNat x_.Args.length)) (.bn (zW (x_.Args.getD (Int.toNat 0) default)) fun r6=>.i (decide ((ByteArray.mk #[(109:UInt8),(111:UInt8),(110:UInt8),(117:UInt8),(115:UInt8),(91:UInt8)]).size+r6.size≤9223372036854775807)) (.i (decide ((ByteArray.mk #[(109:UInt8),(111:UInt8),(110:UInt8),(117:UInt8),(115:UInt8),(91:UInt8)]++r6).size+(ByteArray.mk #[(44:UInt8),(32:UInt8)]).size≤9223372036854775807)) (.i (decide ((0:Int)≤(1:Int))&&decide (1<Int.ofNat x_.Args.length)) (.bn (zW (x_.Args.getD (Int.toNat 1) default)) fun r5=>.i (decide ((ByteArray.mk #[(109:UInt8),(111:UInt8),(110:UInt8),(117:UInt8),(115:UInt8),(91:UInt8)]++r6++ByteArray.mk #[(44:UInt8),(32:UInt8)]).size+r5.size≤9223372036854775807)) (.i (decide ((ByteArray.mk #[(109:UInt8),(111:UInt8),(110:UInt8),(117:UInt8),(115:UInt8),(91:UInt8)]++r6++ByteArray.mk #[(44:UInt8),(32:UInt8)]++r5).size+(ByteArray.mk #[(93:UInt8)]).size≤9223372036854775807)) (.k (ByteArray.mk #[(109:UInt8),(111:UInt8),(110:UInt8),(117:UInt8),(115:UInt8),(91:UInt8)]++r6++ByteArray.mk #[(44:UInt8),(32:UInt8)]++r5++ByteArray.mk #[(93:UInt8)])) .d) .d) .d) .d) .d) .d) (.i (x_.Kind==2) (.i (decide ((0:Int)≤(0:Int))&&decide (0<Int.ofNat x_.Args.length)) (.bn (zW (x_.Args.getD (Int.toNat 0) default)) fun r7=>.i (decide ((ByteArray.mk #[(100:UInt8),(101:UInt8),(108:UInt8),(116:UInt8),(97:UInt8),(91:UInt8)]).size+r7.size≤9223372036854775807)) (.i (decide ((ByteArray.mk #[(100:UInt8),(101:UInt8),(108:UInt8),(116:UInt8),(97:UInt8),(91:UInt8)]++r7).size+(ByteArray.mk #[(93:UInt8)]).size≤9223372036854775807)) (.k (ByteArray.mk #[(100:UInt8),(101:UInt8),(108:UInt8),(116:UInt8),(97:UInt8),(91:UInt8)]++r7++ByteArray.mk #[(93:UInt8)])) .d) .d) .d) (.i (x_.Kind==3) (.i (decide ((0:Int)≤(0:Int))&&decide (0<Int.ofNat x_.Args.length)) (.bn (zW (x_.Args.getD (Int.toNat 0) default)) fun r8=>.i (decide ((ByteArray.mk #[(97:UInt8),(98:UInt8),(115:UInt8),(101:UInt8),(110:UInt8),(116:UInt8),(91:UInt8)]).size+r8.size≤9223372036854775807)) (.i (decide ((ByteArray.mk #[(97:UInt8),(98:UInt8),(115:UInt8),(101:UInt8),(110:UInt8),(116:UInt8),(91:UInt8)]++r8).size+(ByteArray.mk #[(93:UInt8)]).size≤9223372036854775807)) (.k (ByteArray.mk #[(97:UInt8),(98:UInt8),(115:UInt8),(101:UInt8),(110:UInt8),(116:UInt8),(91:UInt8)]++r8++ByteArray.mk #[(93:UInt8)])) .d) .d) .d) (.bn (zph zW (x_.Items.length+(Int.ofNat x_.Items.length).toNat +Int.toNat 0+x_.Args.length+x_.Items.length+0+1) x_.Items (Int.ofNat x_.Items.length) 0 (Atom.mk x_.Kind x_.Row x_.Args x_.Func x_.Items x_.Op x_.Bound) []) fun r11=>.i (decide (0≤r11.1.Func)&&decide (r11.1.Func<Int.ofNat zbG.2.length)) (.i (decide ((ByteArray.mk #[(116:UInt8),(101:UInt8),(115:UInt8),(116:UInt8),(91:UInt8)]).size+ByteArray.size (zbG.2.getD r11.1.Func.toNat default)≤9223372036854775807)) (.i (decide ((ByteArray.mk #[(116:UInt8),(101:UInt8),(115:UInt8),(116:UInt8),(91:UInt8)]++zbG.2.getD r11.1.Func.toNat default).size+(ByteArray.mk #[(123:UInt8)]).size≤9223372036854775807)) (.bn (strings_Join r11.2 (ByteArray.mk #[(59:UInt8),(32:UInt8)])) fun r10=>.i (decide ((ByteArray.mk #[(116:UInt8),(101:UInt8),(115:UInt8),(116:UInt8),(91:UInt8)]++zbG.2.getD r11.1.Func.toNat default++ByteArray.mk #[(123:UInt8)]).size+r10.size≤9223372036854775807)) (.i (decide ((ByteArray.mk #[(116:UInt8),(101:UInt8),(115:UInt8),(116:UInt8),(91:UInt8)]++zbG.2.getD r11.1.Func.toNat default++ByteArray.mk #[(123:UInt8)]++r10).size+(ByteArray.mk #[(125:UInt8),(32:UInt8)]).size≤9223372036854775807)) (.i (decide (0≤IntKind.i64.wrap (r11.1.Op - 5))&&decide (IntKind.i64.wrap (r11.1.Op - 5)<Int.ofNat zcL.2.length)) (.i (decide ((ByteArray.mk #[(116:UInt8),(101:UInt8),(115:UInt8),(116:UInt8),(91:UInt8)]++zbG.2.getD r11.1.Func.toNat default++ByteArray.mk #[(123:UInt8)]++r10++ByteArray.mk #[(125:UInt8),(32:UInt8)]).size+ByteArray.size (zcL.2.getD (IntKind.i64.wrap (r11.1.Op - 5)).toNat default)≤9223372036854775807)) (.i (decide ((ByteArray.mk #[(116:UInt8),(101:UInt8),(115:UInt8),(116:UInt8),(91:UInt8)]++zbG.2.getD r11.1.Func.toNat default++ByteArray.mk #[(123:UInt8)]++r10++ByteArray.mk #[(125:UInt8),(32:UInt8)]++zcL.2.getD (IntKind.i64.wrap (r11.1.Op - 5)).toNat default).size+(ByteArray.mk #[(32:UInt8)]).size≤9223372036854775807)) (.bn (zoE r11.1.Bound) fun r9=>.i (decide ((ByteArray.mk #[(116:UInt8),(101:UInt8),(115:UInt8),(116:UInt8),(91:UInt8)]++zbG.2.getD r11.1.Func.toNat default++ByteArray.mk #[(123:UInt8)]++r10++ByteArray.mk #[(125:UInt8),(32:UInt8)]++zcL.2.getD (IntKind.i64.wrap (r11.1.Op - 5)).toNat default++ByteArray.mk #[(32:UInt8)]).size+r9.size≤9223372036854775807)) (.i (decide ((ByteArray.mk #[(116:UInt8),(101:UInt8),(115:UInt8),(116:UInt8),(91:UInt8)]++zbG.2.getD r11.1.Func.toNat default++ByteArray.mk #[(123:UInt8)]++r10++ByteArray.mk #[(125:UInt8),(32:UInt8)]++zcL.2.getD (IntKind.i64.wrap (r11.1.Op - 5)).toNat default++ByteArray.mk #[(32:UInt8)]++r9).size+(ByteArray.mk #[(93:UInt8)]).size≤9223372036854775807)) (.k (ByteArray.mk #[(116:UInt8),(101:UInt8),(115:UInt8),(116:UInt8),(91:UInt8)]++zbG.2.getD r11.1.Func.toNat default++ByteArray.mk #[(123:UInt8)]++r10++ByteArray.mk #[(125:UInt8),(32:UInt8)]++zcL.2.getD (IntKind.i64.wrap (r11.1.Op - 5)).toNat default++ByteArray.mk #[(32:UInt8)]++r9++ByteArray.mk #[(93:UInt8)])) .d) .d) .d) .d) .d) .d) .d) .d) .d) .d))))
def zhr (zW:List Term→Bool×ByteArray) (x_:Atom):Bool×ByteArray:=(zl5 zW x_).fin default
theorem zvV (zW:List Term→Bool×ByteArray) (zEv:Sound Tryz.prog base0 109 (zll zW)):Sound Tryz.prog base0 153 (zjL (zhr zW)):=
 zD (cx':=(zpL zW)) zQ zim zL (zF ⟨zEv,zrJ,zEF.nodr,zFe,zyI.nodr,zyq.nodr,trivial⟩) Tryz.call153 Tryz.func153 (c:=body Tryz.f153) (by kernel_rfl) (zj (l:=[lp (body Tryz.f153) 0]) (by kernel_rfl) ⟨zwy zW,trivial⟩) (sg:=⟨[.pure],[]⟩) (A:=zsC) (res:=zqE) (W:=fun x=>zl5 zW x.1) (z:=default)
abbrev ttTannotationformatFactors0:=Unit×List Factor×Int×Int×Unit
abbrev ttTannotationformatFactors1:=List ByteArray×Unit
def zea (zP:Atom→Bool×ByteArray) (t7:List Factor) (t8:Int) (t9:Int) (out_:List ByteArray):Wy ttTannotationformatFactors0 ttTannotationformatFactors1 (List ByteArray):=.i (decide (t9<t8)) (.i (decide (0≤t9)&&decide (t9<Int.ofNat t7.length)) (.bn (zP (Atom.mk (t7.getD t9.toNat default).Atom.Kind (t7.getD t9.toNat default).Atom.Row (t7.getD t9.toNat default).Atom.Args (t7.getD t9.toNat default).Atom.Func (t7.getD t9.toNat default).Atom.Items (t7.getD t9.toNat default).Atom.Op (t7.getD t9.toNat default).Atom.Bound)) fun r1=>.i ((t7.getD t9.toNat default).Exp != 1) (.bn (strconv_Itoa (t7.getD t9.toNat default).Exp) fun r0=>.i (decide ((ByteArray.mk #[(94:UInt8)]).size+r0.size≤9223372036854775807)) (.i (decide (r1.size+(ByteArray.mk #[(94:UInt8)]++r0).size≤9223372036854775807)) (.i (decide ((out_.length+[r1++(ByteArray.mk #[(94:UInt8)]++r0)].length)*16≤zT)) (.h ((),t7,t8,(IntKind.i64.wrap (t9+1)),()) ((out_++[r1++(ByteArray.mk #[(94:UInt8)]++r0)]),())) .d) .d) .d) (.i (decide ((out_.length+[r1].length)*16≤zT)) (.h ((),t7,t8,(IntKind.i64.wrap (t9+1)),()) ((out_++[r1]),())) .d)) .d) (.k out_)
def zgp (zP:Atom→Bool×ByteArray) (x:ttTannotationformatFactors0) (y:ttTannotationformatFactors1):Wy ttTannotationformatFactors0 ttTannotationformatFactors1 (List ByteArray):=zea zP x.2.1 x.2.2.1 x.2.2.2.1 y.1
def zn2 (zP:Atom→Bool×ByteArray) (n:Nat) (t7:List Factor) (t8:Int) (t9:Int) (out_:List ByteArray):Bool×List ByteArray:=zN (zgp zP) default n ((),t7,t8,t9,()) (out_,())
def znD (r:List ByteArray):LTree ty:=.done (.exit 0) [.own 128] [.arr 9 r false]
def zn3:LL ty ttTannotationformatFactors0:=za (lOwn 128) (za (lSl 50) (za (lInt .i64) (za (lInt .i64) zS)))
def zn7:BL ty ttTannotationformatFactors1:=bArr 9 false (bNil)
def znu (x:ttTannotationformatFactors0) (y:ttTannotationformatFactors1):Nat:=(x.2.1.length+Int.toNat x.2.2.1+Int.toNat x.2.2.2.1+y.1.length+1)
def zn6 (zP:Atom→Bool×ByteArray):Cx ty:=mkCx base0 32 [(152,strings_Join_spec),(153,(zjL zP)),(154,strconv_Itoa_spec)] [] [(3,[(3,.own 9),(7,.keep),(8,.keep),(9,.keep)])] [(3,1,[(3,.keep)])] [(3,spW zn3 zn7 (zgp zP) default znD znu)] []
theorem zuU (zP:Atom→Bool×ByteArray):zbp (zn6 zP) (lp (body Tryz.f110) 0):=zY (id:=3) (V:=zn3) (B:=zn7) (W:=zgp zP) (z:=default) (tr:=znD) (m:=znu)
def zj8 (zP:Atom→Bool×ByteArray) (l:List Factor):Wy0 (ByteArray):=.bn (zn2 zP (l.length+(Int.ofNat l.length).toNat +Int.toNat 0+0+1) l (Int.ofNat l.length) 0 []) fun r5=>.bn (strings_Join r5 (ByteArray.mk #[(42:UInt8)])) fun r4=>.k r4
def zfg (zP:Atom→Bool×ByteArray) (l:List Factor):Bool×ByteArray:=(zj8 zP l).fin default
theorem ztG (zP:Atom→Bool×ByteArray) (zzI:Sound Tryz.prog base0 153 (zjL zP)):Sound Tryz.prog base0 110 (zfa (zfg zP)):=
 zD (cx':=(zn6 zP)) zQ zim zL (zF ⟨zrJ,zzI,zxC.nodr,trivial⟩) Tryz.call110 Tryz.func110 (c:=body Tryz.f110) (by kernel_rfl) (zj (l:=[lp (body Tryz.f110) 0]) (by kernel_rfl) ⟨zuU zP,trivial⟩) (sg:=⟨[.pure],[]⟩) (A:=zpK) (res:=zoO) (W:=fun x=>zj8 zP x.1) (z:=default)
abbrev ttTannotationtext0:=Unit×List Term×Int×Int×Unit
abbrev ttTannotationtext1:=List ByteArray×Unit
def ziY (zI:List Factor→Bool×ByteArray) (t9:List Term) (t10:Int) (t11:Int) (out_:List ByteArray):Wy ttTannotationtext0 ttTannotationtext1 (List ByteArray):=.i (decide (t11<t10)) (.i (decide (0≤t11)&&decide (t11<Int.ofNat t9.length)) (.i (Int.ofNat (t9.getD t11.toNat default).Factors.length==0) (.bn (zhC (t9.getD t11.toNat default).Coeff 10) fun r0=>.i (decide ((out_.length+[r0].length)*16≤zT)) (.h ((),t9,t10,(IntKind.i64.wrap (t11+1)),()) ((out_++[r0]),())) .d) (.i ((t9.getD t11.toNat default).Coeff==1) (.bn (zI (t9.getD t11.toNat default).Factors) fun r1=>.i (decide ((out_.length+[r1].length)*16≤zT)) (.h ((),t9,t10,(IntKind.i64.wrap (t11+1)),()) ((out_++[r1]),())) .d) (.bn (zhC (t9.getD t11.toNat default).Coeff 10) fun r3=>.i (decide (r3.size+(ByteArray.mk #[(42:UInt8)]).size≤9223372036854775807)) (.bn (zI (t9.getD t11.toNat default).Factors) fun r2=>.i (decide ((r3++ByteArray.mk #[(42:UInt8)]).size+r2.size≤9223372036854775807)) (.i (decide ((out_.length+[r3++ByteArray.mk #[(42:UInt8)]++r2].length)*16≤zT)) (.h ((),t9,t10,(IntKind.i64.wrap (t11+1)),()) ((out_++[r3++ByteArray.mk #[(42:UInt8)]++r2]),())) .d) .d) .d))) .d) (.k out_)
def zlP (zI:List Factor→Bool×ByteArray) (x:ttTannotationtext0) (y:ttTannotationtext1):Wy ttTannotationtext0 ttTannotationtext1 (List ByteArray):=ziY zI x.2.1 x.2.2.1 x.2.2.2.1 y.1
def zvF (zI:List Factor→Bool×ByteArray) (n:Nat) (t9:List Term) (t10:Int) (t11:Int) (out_:List ByteArray):Bool×List ByteArray:=zN (zlP zI) default n ((),t9,t10,t11,()) (out_,())
def zt9 (r:List ByteArray):LTree ty:=.done (.exit 0) [.own 200] [.arr 9 r false]
def zvu:LL ty ttTannotationtext0:=za (lOwn 200) (za (lSl 42) (za (lInt .i64) (za (lInt .i64) zS)))
def zvm:BL ty ttTannotationtext1:=bArr 9 false (bNil)
def ztZ (x:ttTannotationtext0) (y:ttTannotationtext1):Nat:=(x.2.1.length+Int.toNat x.2.2.1+Int.toNat x.2.2.2.1+y.1.length+1)
def zvo (zI:List Factor→Bool×ByteArray):Cx ty:=mkCx base0 50 [(110,(zfa zI)),(151,strconv_FormatInt_spec),(152,strings_Join_spec)] [] [(5,[(3,.own 9),(9,.keep),(10,.keep),(11,.keep)])] [(5,1,[(3,.keep)])] [(5,spW zvu zvm (zlP zI) default zt9 ztZ)] []
theorem zCV (zI:List Factor→Bool×ByteArray):zbp (zvo zI) (lp (body Tryz.f109) 0):=zY (id:=5) (V:=zvu) (B:=zvm) (W:=zlP zI) (z:=default) (tr:=zt9) (m:=ztZ)
def zqp (zI:List Factor→Bool×ByteArray) (a:List Term):Wy0 (ByteArray):=.i (Int.ofNat a.length==0) (.k (ByteArray.mk #[(48:UInt8)])) (.bn (zvF zI (a.length+(Int.ofNat a.length).toNat +Int.toNat 0+0+1) a (Int.ofNat a.length) 0 []) fun r9=>.bn (strings_Join r9 (ByteArray.mk #[(32:UInt8),(43:UInt8),(32:UInt8)])) fun r8=>.k r8)
def zlI (zI:List Factor→Bool×ByteArray) (a:List Term):Bool×ByteArray:=(zqp zI a).fin default
theorem zBd (zI:List Factor→Bool×ByteArray) (zw5:Sound Tryz.prog base0 110 (zfa zI)):Sound Tryz.prog base0 109 (zll (zlI zI)):=
 zD (cx':=(zvo zI)) zQ zim zL (zF ⟨zw5,zsh.nodr,zrJ,trivial⟩) Tryz.call109 Tryz.func109 (c:=body Tryz.f109) (by kernel_rfl) (zj (l:=[lp (body Tryz.f109) 0]) (by kernel_rfl) ⟨zCV zI,trivial⟩) (sg:=⟨[.pure],[]⟩) (A:=zy1) (res:=zwc) (W:=fun x=>zqp zI x.1) (z:=default)
def zw1:Nat→(List Term→Bool×ByteArray)×(Atom→Bool×ByteArray)×(List Factor→Bool×ByteArray)
 | 0=>(fun _=>(false,default),fun _=>(false,default),fun _=>(false,default))
 | n+1=>(zlI ((zw1 n).2.2),zhr ((zw1 n).1),zfg ((zw1 n).2.1))
def zlz (n:Nat):List Term→Bool×ByteArray:=(zw1 n).1
def zjN (n:Nat):Atom→Bool×ByteArray:=(zw1 n).2.1
def zfb (n:Nat):List Factor→Bool×ByteArray:=(zw1 n).2.2
theorem zDQ (n:Nat):zlz (n+1)=zlI (zfb n):=rfl
theorem zyx (n:Nat):zjN (n+1)=zhr (zlz n):=rfl
theorem zvT (n:Nat):zfb (n+1)=zfg (zjN n):=rfl
theorem zDp:∀ n,Sound Tryz.prog base0 109 (zll (zlz n))∧Sound Tryz.prog base0 153 (zjL (zjN n))∧Sound Tryz.prog base0 110 (zfa (zfb n))
 | 0=>⟨zbB Tryz.call109 (fun _=>rfl),zbB Tryz.call153 (fun _=>rfl),zbB Tryz.call110 (fun _=>rfl)⟩
 | n+1=>by
  have ih:=zDp n
  exact ⟨zBd _ (ih.2.2),zvV _ (ih.1),ztG _ (ih.2.1)⟩
def zBV:List Term→Bool×ByteArray:=zlz 1000
def annotation_text_spec:Ab.Spec ty:=zll zBV
theorem zC3:Sound Tryz.prog base0 109 annotation_text_spec:=(zDp 1000).1
def zmF:List Factor→Bool×ByteArray:=zfb 1000
def annotation_formatFactors_spec:Ab.Spec ty:=zfa zmF
theorem zu2:Sound Tryz.prog base0 110 annotation_formatFactors_spec:=(zDp 1000).2.2
def zjg (x:List Term) (a b lim:Int):Bool×List Term:=zIw zbz x a b lim
def slices_pdqsortCmpFunc_api_Term_spec:Ab.Spec ty:=zr (cx:=base) (zf (aOwn 42) (zf (zg (vInt .i64)) (zf (zg (vInt .i64)) (zf (zg (vInt .i64)) (zf (zg (vFn 71 vNil)) aNil))))) fun x=>((zjg x.1 x.2.1 x.2.2.1 x.2.2.2.1).1,⟨[],[some ⟨42,(zjg x.1 x.2.1 x.2.2.1 x.2.2.2.1).2⟩]⟩)
theorem zsF (c:Unit) (x y:Term) (h:(zbz x y).1=true):annotation_compareLists_spec ((AV.agg (base.enc 42 x)::AV.agg (base.enc 42 y)::(vNil:VL base Unit).enc c).map Arg.pure)=some (true,⟨[.pure (.lit (.int .i64 (zbz x y).2))],[]⟩):=by
 rw [← h]; kernel_rfl
theorem zrC:Sound Tryz.prog base 155 slices_pdqsortCmpFunc_api_Term_spec:=by
 letI:DecidableEq (ty 42):=inferInstanceAs (DecidableEq Term)
 exact zMP (T:=42) zB rfl Go.Proofs.Tryz.pdqTerm Tryz.isAgg42 (by unfold szOf; exact Tryz.sizeOf42) Tryz.call155 zjF vNil (fun c=>zbz) zsF
open Go.Proofs Go.RowKit
def zbm (x:List Term):Bool×List Term:=zJ7 zbz x
def zdZ:Ab.Spec ty:=zr (cx:=base) (zf (aOwn 42) (zf (zg (vFn 71 vNil)) aNil)) fun x=>((zbm x.1).1,⟨[],[some ⟨42,(zbm x.1).2⟩]⟩)
set_option maxHeartbeats 1000000 in
theorem zny:Sound Tryz.prog base 111 zdZ where
 enters:=Tryz.call111
 calls:=fun avs r hsp w F vs hF ha hsep=>by
  unfold zdZ zr at hsp
  split at hsp
  ·rename_i x hx
   simp only [Option.some.injEq,Prod.mk.injEq] at hsp
   obtain ⟨hpre,rfl⟩:=hsp
   have hk:=(zf (aOwn 42) (zf (zg (vFn 71 vNil)) aNil):AL base _).kind vs avs x hx
   have ha':=(zf (aOwn 42) (zf (zg (vFn 71 vNil)) aNil):AL base _).ok Tryz.prog zB F w vs avs x hx ha
   rw [hk] at hsep ⊢
   clear hk hx ha
   obtain ⟨l0,c,u0⟩:=x
   obtain ⟨l,rfl⟩:∃ l:List Term,l=l0:=⟨l0,rfl⟩
   obtain ⟨v,vs',rfl,hv,hv'⟩:=ha'.inv
   obtain ⟨fv,vs'',rfl,hfv,h0⟩:=hv'.inv
   obtain rfl:=h0.nil_left.1
   have hsl:∃ p cap,v=.slice p l.length cap:=by
    obtain ⟨⟨xs,hown,_⟩,_⟩:=(show zcF base F w v 42 l∧∀ b,zV v=some b→¬ F b from hv)
    rcases hown.2 with ⟨h1,h2⟩ | ⟨g0,cap,cur,h1,_⟩
    ·exact ⟨none,0,by rw [h1,show l.length=0 from h2]⟩
    ·exact ⟨_,cap,h1⟩
   have hok:SortOK (α:=Term) zbz l:=of_decide_eq_true (p:=SortOK (α:=Term) zbz l) hpre
   have hlen:l.length<4611686018427387904:=hok.size
   have hbl:Lib.bitLen l.length<4611686018427387904:=Nat.lt_of_le_of_lt (Lib.bitLen_le l.length 62 (by omega) (by omega)) (by omega)
   have hpp:(zjg l 0 (l.length:Int) ((Lib.bitLen l.length:Nat):Int)).1=true:=by
    show (decide (SortOK (α:=Term) zbz l)&&(decide ((0:Int)=0)&&(decide ((l.length:Int)=l.length)&&(decide ((0:Int)≤((Lib.bitLen l.length:Nat):Int))&&decide (((Lib.bitLen l.length:Nat):Int)<4611686018427387904)))))=true
    simp only [Bool.and_eq_true,decide_eq_true_eq]
    exact ⟨hok,trivial,trivial,by omega,by omega⟩
   have hp:=(zrC).calls [.own 42 l,.pure (.lit (.int .i64 0)),.pure (.lit (.int .i64 (l.length:Int))),.pure (.lit (.int .i64 ((Lib.bitLen l.length:Nat):Int))),.pure (.fn 71 [])] ⟨[],[some ⟨42,(zbm l).2⟩]⟩
    (by rw [← hpp]; kernel_rfl) w F [v,.int .i64 0,.int .i64 (l.length:Int),.int .i64 ((Lib.bitLen l.length:Nat):Int),fv] hF (.cons hv (.cons (Rep.lit _) (.cons (Rep.lit _) (.cons (Rep.lit _) (.cons hfv .nil))))) hsep
   replace hp:Calls Tryz.prog 155 #[v,.int .i64 0,.int .i64 (l.length:Int),.int .i64 ((Lib.bitLen l.length:Nat):Int),fv] w fun e w'=>∃ u,e=.returned u∧Post base F w [v] ⟨[],[some ⟨42,(zbm l).2⟩]⟩ u w':=hp
   show Calls Tryz.prog 111 #[v,fv] w fun e w'=>∃ u,e=.returned u∧Post base F w [v] ⟨[],[some ⟨42,(zbm l).2⟩]⟩ u w'
   have hb:Calls Tryz.prog 156 #[.int .u64 (l.length:Int)] w fun e w'=>e=.returned (.int .i64 ((Lib.bitLen l.length:Nat):Int))∧w'=w:=by
    have h:=Any.bits_Len Go.Proofs.Tryz.lays125 (l.length:Int) w (by omega) (by omega)
    rwa [Int.toNat_natCast] at h
   have wr:IntKind.u64.wrap (l.length:Int)=l.length:=by simp [IntKind.wrap,IntKind.bits,IntKind.signed]; omega
   generalize (zbm l).2=res at hp ⊢
   generalize hn:l.length=m at *
   generalize Lib.bitLen m=bl at *
   clear hpp hv hfv hsep hok hpre hF
   obtain ⟨p,cap,rfl⟩:=hsl
   clear hn
   go_enter Tryz.func111,Tryz.ntmps111
   go_wp2_with (first | (go_at_call 156; refine hb.mono ?_; rintro e w' ⟨rfl,rfl⟩) | (go_at_call 155; refine hp.mono ?_; rintro e w' ⟨u,rfl,hpost⟩; obtain rfl:=hpost.unit))
   go_end0
   exact ⟨_,rfl,hpost⟩
  ·cases hsp
end Go.Proofs.YtnolcogncjijpaaGreatDoor
namespace Go.Proofs.YtnolcogncjijpaaGreatDoor
open Go Go.Ab
abbrev ttTannotationcollect0:=Unit×Unit×List Term×Int×Int×Unit
abbrev ttTannotationcollect1:=(List (_root_.Go.Value×Int))×List Term×Unit
def zis (t11:List Term) (t12:Int) (t13:Int) (at_:List (_root_.Go.Value×Int)) (out_:List Term):Wy ttTannotationcollect0 ttTannotationcollect1 (List Term):=.i (decide (t13<t12)) (.i (decide (0≤t13)&&decide (t13<Int.ofNat t11.length)) (.bn (zmF (t11.getD t13.toNat default).Factors) fun r0=>.i (zNn (Value.string r0) at_) (.i (decide (0≤(zuY (Value.string r0) at_).getD 0)&&decide ((zuY (Value.string r0) at_).getD 0<Int.ofNat out_.length)) (.i (decide (0≤(zuY (Value.string r0) at_).getD 0)&&decide ((zuY (Value.string r0) at_).getD 0<Int.ofNat out_.length)) (.i (decide (Int.toNat ((zuY (Value.string r0) at_).getD 0)<out_.length)) (.h ((),(),t11,t12,(IntKind.i64.wrap (t13+1)),()) (at_,(out_.set (Int.toNat ((zuY (Value.string r0) at_).getD 0)) (TermOf.mk (if 1152921504606846976<IntKind.i64.wrap ((out_.getD (Int.toNat ((zuY (Value.string r0) at_).getD 0)) default).Coeff+(t11.getD t13.toNat default).Coeff) then 1152921504606846976 else IntKind.i64.wrap ((out_.getD (Int.toNat ((zuY (Value.string r0) at_).getD 0)) default).Coeff+(t11.getD t13.toNat default).Coeff)) (out_.getD (Int.toNat ((zuY (Value.string r0) at_).getD 0)) default).Factors)),())) .d) .d) .d) (.i (decide ((out_.length+[t11.getD t13.toNat default].length)*32≤zT)) (.h ((),(),t11,t12,(IntKind.i64.wrap (t13+1)),()) ((zNb (Value.string r0) (Int.ofNat out_.length) at_),(out_++[t11.getD t13.toNat default]),())) .d)) .d) (.k out_)
def zk7 (x:ttTannotationcollect0) (y:ttTannotationcollect1):Wy ttTannotationcollect0 ttTannotationcollect1 (List Term):=zis x.2.2.1 x.2.2.2.1 x.2.2.2.2.1 y.1 y.2.1
def zoq (n:Nat) (t11:List Term) (t12:Int) (t13:Int) (at_:List (_root_.Go.Value×Int)) (out_:List Term):Bool×List Term:=zN (zk7) default n ((),(),t11,t12,t13,()) (at_,out_,())
def zs2 (r:List Term):LTree ty:=.done (.exit 0) [.own 208] [.arr 42 r false]
def zt0:LL ty ttTannotationcollect0:=za (lMp 208) (za (lOwn 209) (za (lSl 42) (za (lInt .i64) (za (lInt .i64) zS))))
def zuw:BL ty ttTannotationcollect1:=bMp 9 3 false (bArr 42 false (bNil))
def zte (x:ttTannotationcollect0) (y:ttTannotationcollect1):Nat:=(x.2.2.1.length+Int.toNat x.2.2.2.1+Int.toNat x.2.2.2.2.1+y.1.length+y.2.1.length+1)
def zuf:Cx ty:=mkCx base0 52 [(71,annotation_compareLists_spec),(110,annotation_formatFactors_spec),(111,zdZ)] [(111,[true,false])] [(4,[(3,.keep),(4,.own 42),(11,.keep),(12,.keep),(13,.keep)])] [(4,1,[(4,.keep)])] [(4,spW zt0 zuw (zk7) default zs2 zte)] []
theorem zCm:zbp zuf (lp (body Tryz.f54) 0):=zY (id:=4) (V:=zt0) (B:=zuw) (W:=zk7) (z:=default) (tr:=zs2) (m:=zte)
def zpp (terms:List Term):Wy0 (List Term):=.bn (zoq (terms.length+(Int.ofNat terms.length).toNat +Int.toNat 0+0+0+1) terms (Int.ofNat terms.length) 0 [] []) fun r3=>.bn (zbm r3) fun r2=>.k r2
def zgL (terms:List Term):Bool×List Term:=(zpp terms).fin default
def zta (r:List Term):ARes ty:=⟨[.own 42 r],[]⟩
def zvr:AL base0 (List Term×Unit):=zf (zg (vSl 42)) aNil
def znk:Ab.Spec ty:=zr zvr fun x=>((zgL x.1).1,zta (zgL x.1).2)
theorem zrE:Sound Tryz.prog base0 54 znk:=
 zD (cx':=zuf) zQ zim zL (zF ⟨zjF.nodr,zu2,zny.nodr,trivial⟩) Tryz.call54 Tryz.func54 (c:=body Tryz.f54) (by kernel_rfl) (zj (l:=[lp (body Tryz.f54) 0]) (by kernel_rfl) ⟨zCm,trivial⟩) (sg:=⟨[.own 42],[]⟩) (A:=zvr) (res:=zta) (W:=fun x=>zpp x.1) (z:=default)
def zqT:Cx ty:=mkCx base 27 [] [] [] [] [] []
def zgJ (n_:Int):Wy0 (List Factor):=.i (decide (n_<0)) .d (.i (decide (IntKind.i64.wrap (n_ - IntKind.i64.wrap (0 - 0))>0)) (.i (decide (0<IntKind.i64.wrap (n_ - IntKind.i64.wrap (0 - 0)))&&(decide (IntKind.i64.wrap (n_ - IntKind.i64.wrap (0 - 0))*Int.ofNat 128≤Int.ofNat zT)&&(decide (IntKind.i64.wrap (n_ - IntKind.i64.wrap (0 - 0))≤Int.ofNat zT)&& !Nat.beq 11 0))) (.k (List.take (Int.toNat 0 - Int.toNat 0) (List.replicate (IntKind.i64.wrap (n_ - IntKind.i64.wrap (0 - 0))).toNat (FactorOf.mk (Atom.mk 0 (RowID.mk 0 0) [] 0 [] 0 (Value.mk 0 0 (ByteArray.mk #[]))) 0)))) .d) (.k []))
def zdl (n_:Int):Bool×List Factor:=(zgJ n_).fin default
def zjS (r:List Factor):ARes ty:=⟨[.own 50 r],[]⟩
def zkB:AL base (Unit×Int×Unit):=zf (zg zPu) (zf (zg (vInt .i64)) aNil)
def zju:Ab.Spec ty:=zr zkB fun x=>((zdl x.2.1).1,zjS (zdl x.2.1).2)
theorem zpD:Sound Tryz.prog base 158 zju:=
 zD (cx':=zqT) zQ zB zL (zF trivial) Tryz.call158 Tryz.func158 (c:=body Tryz.f158) (by kernel_rfl) (zj (l:=[]) (by kernel_rfl) trivial) (sg:=⟨[.own 50],[]⟩) (A:=zkB) (res:=zjS) (W:=fun x=>zgJ x.2.1) (z:=default)
abbrev ttTslicesConcatLapiFactorapiFactor0:=List (List Factor)×Int×List (List Factor)×Int×Int×Unit
abbrev ttTslicesConcatLapiFactorapiFactor1:=List (List Factor)×Int
abbrev ttTslicesConcatLapiFactorapiFactor2:=Unit×List (List Factor)×Int×Int×Unit
abbrev ttTslicesConcatLapiFactorapiFactor3:=List Factor×Unit
def zcr (slices:List (List Factor)) (size:Int) (t9:List (List Factor)) (t10:Int) (t11:Int):Wy ttTslicesConcatLapiFactorapiFactor0 (Unit) ttTslicesConcatLapiFactorapiFactor1:=.i (decide (t11<t10)) (.i (decide (0≤t11)&&decide (t11<Int.ofNat t9.length)) (.i (decide (IntKind.i64.wrap (size+Int.ofNat (List.length (t9.getD t11.toNat default)))<0)) .d (.h (slices,(IntKind.i64.wrap (size+Int.ofNat (List.length (t9.getD t11.toNat default)))),t9,t10,(IntKind.i64.wrap (t11+1)),()) ())) .d) (.k (slices,size))
def zdB (x:ttTslicesConcatLapiFactorapiFactor0) (y:Unit):Wy ttTslicesConcatLapiFactorapiFactor0 (Unit) ttTslicesConcatLapiFactorapiFactor1:=zcr x.1 x.2.1 x.2.2.1 x.2.2.2.1 x.2.2.2.2.1
def zjr (n:Nat) (slices:List (List Factor)) (size:Int) (t9:List (List Factor)) (t10:Int) (t11:Int):Bool×ttTslicesConcatLapiFactorapiFactor1:=zN (zdB) default n (slices,size,t9,t10,t11,()) ()
def zje (r:ttTslicesConcatLapiFactorapiFactor1):LTree ty:=.done (.exit 0) [.sl 40 r.1,.lit (.int .i64 r.2)] []
def zjw:LL ty ttTslicesConcatLapiFactorapiFactor0:=za (lSl 40) (za (lInt .i64) (za (lSl 40) (za (lInt .i64) (za (lInt .i64) zS))))
def zjs:BL ty (Unit):=bNil
def zco (t25:List (List Factor)) (t26:Int) (t27:Int) (newslice:List Factor):Wy ttTslicesConcatLapiFactorapiFactor2 ttTslicesConcatLapiFactorapiFactor3 (List Factor):=.i (decide (t27<t26)) (.i (decide (0≤t27)&&decide (t27<Int.ofNat t25.length)) (.i (decide ((newslice.length+List.length (t25.getD t27.toNat default))*128≤zT)) (.h ((),t25,t26,(IntKind.i64.wrap (t27+1)),()) ((newslice++t25.getD t27.toNat default),())) .d) .d) (.k newslice)
def zdm (x:ttTslicesConcatLapiFactorapiFactor2) (y:ttTslicesConcatLapiFactorapiFactor3):Wy ttTslicesConcatLapiFactorapiFactor2 ttTslicesConcatLapiFactorapiFactor3 (List Factor):=zco x.2.1 x.2.2.1 x.2.2.2.1 y.1
def zjf (n:Nat) (t25:List (List Factor)) (t26:Int) (t27:Int) (newslice:List Factor):Bool×List Factor:=zN (zdm) default n ((),t25,t26,t27,()) (newslice,())
def ziR (r:List Factor):LTree ty:=.done (.exit 2) [.own 144] [.arr 50 r false]
def ziZ:LL ty ttTslicesConcatLapiFactorapiFactor2:=za (lOwn 144) (za (lSl 40) (za (lInt .i64) (za (lInt .i64) zS)))
def zi5:BL ty ttTslicesConcatLapiFactorapiFactor3:=bArr 50 false (bNil)
def ziX (x:ttTslicesConcatLapiFactorapiFactor0) (y:Unit):Nat:=(x.1.length+Int.toNat x.2.1+x.2.2.1.length+Int.toNat x.2.2.2.1+Int.toNat x.2.2.2.2.1+1)
def ziQ (x:ttTslicesConcatLapiFactorapiFactor2) (y:ttTslicesConcatLapiFactorapiFactor3):Nat:=(x.2.1.length+Int.toNat x.2.2.1+Int.toNat x.2.2.2.1+y.1.length+1)
def zfd:Cx ty:=mkCx base 36 [(158,zju)] [] [(3,[(0,.keep),(3,.keep),(9,.keep),(10,.keep),(11,.keep)]),(11,[(6,.keep),(25,.keep),(26,.keep),(27,.keep)])] [(3,1,[(0,.keep),(3,.keep)]),(11,3,[(6,.keep)])] [(3,spW zjw zjs (zdB) default zje ziX),(11,spW ziZ zi5 (zdm) default ziR ziQ)] [158]
theorem zpz:zbp zfd (lp (body Tryz.f114) 0):=zY (id:=3) (V:=zjw) (B:=zjs) (W:=zdB) (z:=default) (tr:=zje) (m:=ziX)
theorem zoR:zbp zfd (lp (body Tryz.f114) 1):=zY (id:=11) (V:=ziZ) (B:=zi5) (W:=zdm) (z:=default) (tr:=ziR) (m:=ziQ)
def zfD (slices:List (List Factor)):Wy0 (List Factor):=.bn (zjr (slices.length+Int.toNat 0+slices.length+(Int.ofNat slices.length).toNat +Int.toNat 0+1) slices 0 slices (Int.ofNat slices.length) 0) fun r2=>.bn (zdl r2.2) fun r1=>.bn (zjf (r2.1.length+(Int.ofNat r2.1.length).toNat +Int.toNat 0+r1.length+1) r2.1 (Int.ofNat r2.1.length) 0 r1) fun r0=>.k r0
def zcR (slices:List (List Factor)):Bool×List Factor:=(zfD slices).fin default
def zi0 (r:List Factor):ARes ty:=⟨[.own 50 r],[]⟩
def zjR:AL base (List (List Factor)×Unit):=zf (zg (vSl 40)) aNil
def ziS:Ab.Spec ty:=zr zjR fun x=>((zcR x.1).1,zi0 (zcR x.1).2)
theorem zot:Sound Tryz.prog base 114 ziS:=
 zD (cx':=zfd) zQ zB zL (zF ⟨zpD,trivial⟩) Tryz.call114 Tryz.func114 (c:=body Tryz.f114) (by kernel_rfl) (zj (l:=[lp (body Tryz.f114) 0,lp (body Tryz.f114) 1]) (by kernel_rfl) ⟨zpz,zoR,trivial⟩) (sg:=⟨[.own 50],[]⟩) (A:=zjR) (res:=zi0) (W:=fun x=>zfD x.1) (z:=default)
abbrev ttTannotationjoin0:=List Factor×List Factor×Unit×Unit
abbrev ttTannotationjoin1:=List Factor×Unit
abbrev ttTannotationjoin2:=List Factor×List Factor×List Factor
def zrh (a:List Factor) (b:List Factor) (out_:List Factor):Wy ttTannotationjoin0 ttTannotationjoin1 ttTannotationjoin2:=.i (decide (Int.ofNat a.length>0)) (.i (decide (Int.ofNat b.length>0)) (.i (decide ((0:Int)≤(0:Int))&&decide (0<Int.ofNat a.length)) (.i (decide ((0:Int)≤(0:Int))&&decide (0<Int.ofNat b.length)) (.bn (zhf (Atom.mk (a.getD (Int.toNat 0) default).Atom.Kind (a.getD (Int.toNat 0) default).Atom.Row (a.getD (Int.toNat 0) default).Atom.Args (a.getD (Int.toNat 0) default).Atom.Func (a.getD (Int.toNat 0) default).Atom.Items (a.getD (Int.toNat 0) default).Atom.Op (a.getD (Int.toNat 0) default).Atom.Bound) (Atom.mk (b.getD (Int.toNat 0) default).Atom.Kind (b.getD (Int.toNat 0) default).Atom.Row (b.getD (Int.toNat 0) default).Atom.Args (b.getD (Int.toNat 0) default).Atom.Func (b.getD (Int.toNat 0) default).Atom.Items (b.getD (Int.toNat 0) default).Atom.Op (b.getD (Int.toNat 0) default).Atom.Bound)) fun r1=>.i (decide (r1<0)) (.i (decide ((0:Int)≤(0:Int))&&decide (0<Int.ofNat a.length)) (.i (decide ((out_.length+[FactorOf.mk (Atom.mk (a.getD (Int.toNat 0) default).Atom.Kind (a.getD (Int.toNat 0) default).Atom.Row (a.getD (Int.toNat 0) default).Atom.Args (a.getD (Int.toNat 0) default).Atom.Func (a.getD (Int.toNat 0) default).Atom.Items (a.getD (Int.toNat 0) default).Atom.Op (a.getD (Int.toNat 0) default).Atom.Bound) (a.getD (Int.toNat 0) default).Exp].length)*128≤zT)) (.i (decide ((0:Int)≤(1:Int))&&decide (1≤Int.ofNat a.length)&&decide (Int.ofNat a.length≤Int.ofNat a.length)) (.h ((List.take ((Int.ofNat a.length).toNat - Int.toNat 1) (List.drop (Int.toNat 1) a)),b,(),()) ((out_++[FactorOf.mk (Atom.mk (a.getD (Int.toNat 0) default).Atom.Kind (a.getD (Int.toNat 0) default).Atom.Row (a.getD (Int.toNat 0) default).Atom.Args (a.getD (Int.toNat 0) default).Atom.Func (a.getD (Int.toNat 0) default).Atom.Items (a.getD (Int.toNat 0) default).Atom.Op (a.getD (Int.toNat 0) default).Atom.Bound) (a.getD (Int.toNat 0) default).Exp]),())) .d) .d) .d) (.i (decide (r1>0)) (.i (decide ((0:Int)≤(0:Int))&&decide (0<Int.ofNat b.length)) (.i (decide ((out_.length+[FactorOf.mk (Atom.mk (b.getD (Int.toNat 0) default).Atom.Kind (b.getD (Int.toNat 0) default).Atom.Row (b.getD (Int.toNat 0) default).Atom.Args (b.getD (Int.toNat 0) default).Atom.Func (b.getD (Int.toNat 0) default).Atom.Items (b.getD (Int.toNat 0) default).Atom.Op (b.getD (Int.toNat 0) default).Atom.Bound) (b.getD (Int.toNat 0) default).Exp].length)*128≤zT)) (.i (decide ((0:Int)≤(1:Int))&&decide (1≤Int.ofNat b.length)&&decide (Int.ofNat b.length≤Int.ofNat b.length)) (.h (a,(List.take ((Int.ofNat b.length).toNat - Int.toNat 1) (List.drop (Int.toNat 1) b)),(),()) ((out_++[FactorOf.mk (Atom.mk (b.getD (Int.toNat 0) default).Atom.Kind (b.getD (Int.toNat 0) default).Atom.Row (b.getD (Int.toNat 0) default).Atom.Args (b.getD (Int.toNat 0) default).Atom.Func (b.getD (Int.toNat 0) default).Atom.Items (b.getD (Int.toNat 0) default).Atom.Op (b.getD (Int.toNat 0) default).Atom.Bound) (b.getD (Int.toNat 0) default).Exp]),())) .d) .d) .d) (.i (decide ((0:Int)≤(0:Int))&&decide (0<Int.ofNat a.length)) (.bn (zev (Atom.mk (a.getD (Int.toNat 0) default).Atom.Kind (a.getD (Int.toNat 0) default).Atom.Row (a.getD (Int.toNat 0) default).Atom.Args (a.getD (Int.toNat 0) default).Atom.Func (a.getD (Int.toNat 0) default).Atom.Items (a.getD (Int.toNat 0) default).Atom.Op (a.getD (Int.toNat 0) default).Atom.Bound)) fun r0=>.i (!r0) (.i (decide ((0:Int)≤(0:Int))&&decide (0<Int.ofNat b.length)) (.i (decide ((out_.length+[FactorOf.mk (Atom.mk (a.getD (Int.toNat 0) default).Atom.Kind (a.getD (Int.toNat 0) default).Atom.Row (a.getD (Int.toNat 0) default).Atom.Args (a.getD (Int.toNat 0) default).Atom.Func (a.getD (Int.toNat 0) default).Atom.Items (a.getD (Int.toNat 0) default).Atom.Op (a.getD (Int.toNat 0) default).Atom.Bound) (IntKind.i64.wrap ((a.getD (Int.toNat 0) default).Exp+(b.getD (Int.toNat 0) default).Exp))].length)*128≤zT)) (.i (decide ((0:Int)≤(1:Int))&&decide (1≤Int.ofNat a.length)&&decide (Int.ofNat a.length≤Int.ofNat a.length)) (.i (decide ((0:Int)≤(1:Int))&&decide (1≤Int.ofNat b.length)&&decide (Int.ofNat b.length≤Int.ofNat b.length)) (.h ((List.take ((Int.ofNat a.length).toNat - Int.toNat 1) (List.drop (Int.toNat 1) a)),(List.take ((Int.ofNat b.length).toNat - Int.toNat 1) (List.drop (Int.toNat 1) b)),(),()) ((out_++[FactorOf.mk (Atom.mk (a.getD (Int.toNat 0) default).Atom.Kind (a.getD (Int.toNat 0) default).Atom.Row (a.getD (Int.toNat 0) default).Atom.Args (a.getD (Int.toNat 0) default).Atom.Func (a.getD (Int.toNat 0) default).Atom.Items (a.getD (Int.toNat 0) default).Atom.Op (a.getD (Int.toNat 0) default).Atom.Bound) (IntKind.i64.wrap ((a.getD (Int.toNat 0) default).Exp+(b.getD (Int.toNat 0) default).Exp))]),())) .d) .d) .d) .d) (.i (decide ((out_.length+[FactorOf.mk (Atom.mk (a.getD (Int.toNat 0) default).Atom.Kind (a.getD (Int.toNat 0) default).Atom.Row (a.getD (Int.toNat 0) default).Atom.Args (a.getD (Int.toNat 0) default).Atom.Func (a.getD (Int.toNat 0) default).Atom.Items (a.getD (Int.toNat 0) default).Atom.Op (a.getD (Int.toNat 0) default).Atom.Bound) (a.getD (Int.toNat 0) default).Exp].length)*128≤zT)) (.i (decide ((0:Int)≤(1:Int))&&decide (1≤Int.ofNat a.length)&&decide (Int.ofNat a.length≤Int.ofNat a.length)) (.i (decide ((0:Int)≤(1:Int))&&decide (1≤Int.ofNat b.length)&&decide (Int.ofNat b.length≤Int.ofNat b.length)) (.h ((List.take ((Int.ofNat a.length).toNat - Int.toNat 1) (List.drop (Int.toNat 1) a)),(List.take ((Int.ofNat b.length).toNat - Int.toNat 1) (List.drop (Int.toNat 1) b)),(),()) ((out_++[FactorOf.mk (Atom.mk (a.getD (Int.toNat 0) default).Atom.Kind (a.getD (Int.toNat 0) default).Atom.Row (a.getD (Int.toNat 0) default).Atom.Args (a.getD (Int.toNat 0) default).Atom.Func (a.getD (Int.toNat 0) default).Atom.Items (a.getD (Int.toNat 0) default).Atom.Op (a.getD (Int.toNat 0) default).Atom.Bound) (a.getD (Int.toNat 0) default).Exp]),())) .d) .d) .d)) .d))) .d) .d) (.k (a,b,out_))) (.k (a,b,out_))
def zrw (x:ttTannotationjoin0) (y:ttTannotationjoin1):Wy ttTannotationjoin0 ttTannotationjoin1 ttTannotationjoin2:=zrh x.1 x.2.1 y.1
def zrQ (n:Nat) (a:List Factor) (b:List Factor) (out_:List Factor):Bool×ttTannotationjoin2:=zN (zrw) default n (a,b,(),()) (out_,())
def zwn (r:ttTannotationjoin2):LTree ty:=.done (.exit 0) [.sl 50 r.1,.sl 50 r.2.1,.own 300] [.arr 50 r.2.2 false]
def zxB:LL ty ttTannotationjoin0:=za (lSl 50) (za (lSl 50) (za (lOwn 300) zS))
def zxz:BL ty ttTannotationjoin1:=bArr 50 false (bNil)
def zv1 (x:ttTannotationjoin0) (y:ttTannotationjoin1):Nat:=(x.1.length+x.2.1.length+y.1.length+1)
def zx7:Cx ty:=mkCx base 75 [(72,zii),(73,annotation_compareAtoms_spec),(114,ziS)] [] [(2,[(0,.keep),(1,.keep),(5,.own 50)])] [(2,1,[(0,.keep),(1,.keep),(5,.keep)])] [(2,spW zxB zxz (zrw) default zwn zv1)] []
theorem zEE:zbp zx7 (lp (body Tryz.f59) 0):=zY (id:=2) (V:=zxB) (B:=zxz) (W:=zrw) (z:=default) (tr:=zwn) (m:=zv1)
def zsQ (a:List Factor) (b:List Factor):Wy0 (List Factor):=.bn (zrQ (a.length+b.length+0+1) a b []) fun r5=>.bn (zcR [r5.2.2,r5.1,r5.2.1]) fun r4=>.k r4
def zkX (a:List Factor) (b:List Factor):Bool×List Factor:=(zsQ a b).fin default
def zwj (r:List Factor):ARes ty:=⟨[.own 50 r],[]⟩
def zyX:AL base (List Factor×List Factor×Unit):=zf (zg (vSl 50)) (zf (zg (vSl 50)) aNil)
def zuP:Ab.Spec ty:=zr zyX fun x=>((zkX x.1 x.2.1).1,zwj (zkX x.1 x.2.1).2)
theorem zCy:Sound Tryz.prog base 59 zuP:=
 zD (cx':=zx7) zQ zB zL (zF ⟨zkC,zob,zot,trivial⟩) Tryz.call59 Tryz.func59 (c:=body Tryz.f59) (by kernel_rfl) (zj (l:=[lp (body Tryz.f59) 0]) (by kernel_rfl) ⟨zEE,trivial⟩) (sg:=⟨[.own 50],[]⟩) (A:=zyX) (res:=zwj) (W:=fun x=>zsQ x.1 x.2.1) (z:=default)
def zEA:Cx ty:=mkCx base 12 [] [] [] [] [] []
def zq0 (a:Int) (b:Int):Wy0 (Int):=.i (!decide (b=0)) (.i (decide (a>IntKind.i64.wrap (Int.tdiv 1152921504606846976 b))) (.k 1152921504606846976) (.k (IntKind.i64.wrap (a*b)))) .d
def zmQ (a:Int) (b:Int):Bool×Int:=(zq0 a b).fin default
def zvQ (r:Int):ARes ty:=⟨[.pure (.lit (.int .i64 r))],[]⟩
def zxm:AL base (Int×Int×Unit):=zf (zg (vInt .i64)) (zf (zg (vInt .i64)) aNil)
def ztV:Ab.Spec ty:=zr zxm fun x=>((zmQ x.1 x.2.1).1,zvQ (zmQ x.1 x.2.1).2)
theorem zCg:Sound Tryz.prog base 58 ztV:=
 zD (cx':=zEA) zQ zB zL (zF trivial) Tryz.call58 Tryz.func58 (c:=body Tryz.f58) (by kernel_rfl) (zj (l:=[]) (by kernel_rfl) trivial) (sg:=⟨[.pure],[]⟩) (A:=zxm) (res:=zvQ) (W:=fun x=>zq0 x.1 x.2.1) (z:=default)
abbrev ttTannotationMul0:=List Term×Unit×Unit×List Term×Int×Int×List Term×Int×Int×Unit
abbrev ttTannotationMul1:=List Term×Term×Unit
abbrev ttTannotationMul2:=List Term×List Term×Int×Int×List Term
abbrev ttTannotationMul3:=List Term×Unit×List Term×Int×Int×Unit
abbrev ttTannotationMul4:=List Term×Unit
def zlo (b:List Term) (t19:List Term) (t20:Int) (t21:Int) (t25:List Term) (t26:Int) (t27:Int) (terms:List Term) (x_:Term):Wy ttTannotationMul0 ttTannotationMul1 ttTannotationMul2:=.i (decide (t27<t26)) (.i (decide (0≤t27)&&decide (t27<Int.ofNat t25.length)) (.bn (zmQ x_.Coeff (t25.getD t27.toNat default).Coeff) fun r5=>.bn (zkX x_.Factors (t25.getD t27.toNat default).Factors) fun r4=>.i (decide ((terms.length+[TermOf.mk r5 r4].length)*32≤zT)) (.h (b,(),(),t19,t20,t21,t25,t26,(IntKind.i64.wrap (t27+1)),()) ((terms++[TermOf.mk r5 r4]),x_,())) .d) .d) (.k (b,t19,t20,t21,terms))
def zoh (x:ttTannotationMul0) (y:ttTannotationMul1):Wy ttTannotationMul0 ttTannotationMul1 ttTannotationMul2:=zlo x.1 x.2.2.2.1 x.2.2.2.2.1 x.2.2.2.2.2.1 x.2.2.2.2.2.2.1 x.2.2.2.2.2.2.2.1 x.2.2.2.2.2.2.2.2.1 y.1 y.2.1
def zzg (n:Nat) (b:List Term) (t19:List Term) (t20:Int) (t21:Int) (t25:List Term) (t26:Int) (t27:Int) (terms:List Term) (x_:Term):Bool×ttTannotationMul2:=zN (zoh) default n (b,(),(),t19,t20,t21,t25,t26,t27,()) (terms,x_,())
def zx8 (r:ttTannotationMul2):LTree ty:=.done (.exit 2) [.sl 42 r.1,.own 208,.sl 42 r.2.1,.lit (.int .i64 r.2.2.1),.lit (.int .i64 r.2.2.2.1)] [.arr 42 r.2.2.2.2 false]
def zy9:LL ty ttTannotationMul0:=za (lSl 42) (za (lOwn 208) (za (zqQ 209 0) (za (lSl 42) (za (lInt .i64) (za (lInt .i64) (za (lSl 42) (za (lInt .i64) (za (lInt .i64) zS))))))))
def zyU:BL ty ttTannotationMul1:=bArr 42 false (bBox (ztB (fun x=>(⟨x.1,x.2.1⟩:Term)) (fun x=>(x.Coeff,x.Factors,())) (fun _=>rfl) (za (lInt .i64) (za (lSl 50) zS))) false (bNil))
def zlE (b:List Term) (t19:List Term) (t20:Int) (t21:Int) (terms:List Term):Wy ttTannotationMul3 ttTannotationMul4 (List Term):=.i (decide (t21<t20)) (.i (decide (0≤t21)&&decide (t21<Int.ofNat t19.length)) (.bn (zzg (b.length+t19.length+t20.toNat +t21.toNat +b.length+(Int.ofNat b.length).toNat +Int.toNat 0+terms.length+(t19.getD t21.toNat default).Factors.length+1) b t19 t20 t21 b (Int.ofNat b.length) 0 terms (t19.getD t21.toNat default)) fun r8=>.h ((r8.1),(),(r8.2.1),(r8.2.2.1),(IntKind.i64.wrap (r8.2.2.2.1+1)),()) ((r8.2.2.2.2),())) .d) (.k terms)
def zoj (x:ttTannotationMul3) (y:ttTannotationMul4):Wy ttTannotationMul3 ttTannotationMul4 (List Term):=zlE x.1 x.2.2.1 x.2.2.2.1 x.2.2.2.2.1 y.1
def zsV (n:Nat) (b:List Term) (t19:List Term) (t20:Int) (t21:Int) (terms:List Term):Bool×List Term:=zN (zoj) default n (b,(),t19,t20,t21,()) (terms,())
def zxT (r:List Term):LTree ty:=.done (.exit 0) [.own 208] [.arr 42 r false]
def zy4:LL ty ttTannotationMul3:=za (lSl 42) (za (lOwn 208) (za (lSl 42) (za (lInt .i64) (za (lInt .i64) zS))))
def zzd:BL ty ttTannotationMul4:=bArr 42 false (bNil)
def zxW (x:ttTannotationMul0) (y:ttTannotationMul1):Nat:=(x.1.length+x.2.2.2.1.length+Int.toNat x.2.2.2.2.1+Int.toNat x.2.2.2.2.2.1+x.2.2.2.2.2.2.1.length+Int.toNat x.2.2.2.2.2.2.2.1+Int.toNat x.2.2.2.2.2.2.2.2.1+y.1.length+y.2.1.Factors.length+1)
def zxK (x:ttTannotationMul3) (y:ttTannotationMul4):Nat:=(x.1.length+x.2.2.1.length+Int.toNat x.2.2.2.1+Int.toNat x.2.2.2.2.1+y.1.length+1)
def zsP:Cx ty:=mkCx base0 52 [(31,annotation_Valid_spec),(53,zdU),(54,znk),(58,ztV),(59,zuP)] [] [(5,[(1,.keep),(6,.own 42),(19,.keep),(20,.keep),(21,.keep)]),(8,[(1,.keep),(6,.own 42),(8,.keep),(19,.keep),(20,.keep),(21,.keep),(25,.keep),(26,.keep),(27,.keep)])] [(5,1,[(6,.keep)]),(8,3,[(1,.keep),(6,.keep),(19,.keep),(20,.keep),(21,.keep)])] [(8,spW zy9 zyU (zoh) default zx8 zxW),(5,spW zy4 zzd (zoj) default zxT zxK)] []
theorem zFH:zbp zsP (lp (body Tryz.f16) 1):=zY (id:=8) (V:=zy9) (B:=zyU) (W:=zoh) (z:=default) (tr:=zx8) (m:=zxW)
theorem zFC:zbp zsP (lp (body Tryz.f16) 0):=zY (id:=5) (V:=zy4) (B:=zzd) (W:=zoj) (z:=default) (tr:=zxT) (m:=zxK)
def ztL (a:List Term) (b:List Term):Wy0 (List Term×Int):=.bn (zbK a) fun r14=>.i (!r14) (.k ([],1)) (.bn (zbK b) fun r13=>.i (!r13) (.k ([],1)) (.bn (zsV (b.length+a.length+(Int.ofNat a.length).toNat +Int.toNat 0+0+1) b a (Int.ofNat a.length) 0 []) fun r12=>.bn (zgL r12) fun r11=>.bn (zdq r11) fun r10=>.k (r10.1,r10.2)))
def zmr (a:List Term) (b:List Term):Bool×(List Term×Int):=(ztL a b).fin default
def zxX (r:List Term×Int):ARes ty:=⟨[.own 42 r.1,.pure (.lit (.int .i64 r.2))],[]⟩
def zz8:AL base0 (List Term×List Term×Unit):=zf (zg (vSl 42)) (zf (zg (vSl 42)) aNil)
def zmZ:Ab.Spec ty:=zr zz8 fun x=>((zmr x.1 x.2.1).1,zxX (zmr x.1 x.2.1).2)
theorem zpt:Sound Tryz.prog base0 16 zmZ:=
 zD (cx':=zsP) zQ zim zL (zF ⟨zcm.nodr,zeu.nodr,zrE,zCg.nodr,zCy.nodr,trivial⟩) Tryz.call16 Tryz.func16 (c:=body Tryz.f16) (by kernel_rfl) (zj (l:=[lp (body Tryz.f16) 0,lp (body Tryz.f16) 1]) (by kernel_rfl) ⟨zFC,zFH,trivial⟩) (sg:=⟨[.own 42,.pure],[]⟩) (A:=zz8) (res:=zxX) (W:=fun x=>ztL x.1 x.2.1) (z:=default)
def zqq:Cx ty:=mkCx base 27 [] [] [] [] [] []
def zke (n_:Int):Wy0 (List Term):=.i (decide (n_<0)) .d (.i (decide (IntKind.i64.wrap (n_ - IntKind.i64.wrap (0 - 0))>0)) (.i (decide (0<IntKind.i64.wrap (n_ - IntKind.i64.wrap (0 - 0)))&&(decide (IntKind.i64.wrap (n_ - IntKind.i64.wrap (0 - 0))*Int.ofNat 32≤Int.ofNat zT)&&(decide (IntKind.i64.wrap (n_ - IntKind.i64.wrap (0 - 0))≤Int.ofNat zT)&& !Nat.beq 2 0))) (.k (List.take (Int.toNat 0 - Int.toNat 0) (List.replicate (IntKind.i64.wrap (n_ - IntKind.i64.wrap (0 - 0))).toNat (TermOf.mk 0 [])))) .d) (.k []))
def zhb (n_:Int):Bool×List Term:=(zke n_).fin default
def zjv (r:List Term):ARes ty:=⟨[.own 42 r],[]⟩
def zkd:AL base (Unit×Int×Unit):=zf (zg zPu) (zf (zg (vInt .i64)) aNil)
def zjc:Ab.Spec ty:=zr zkd fun x=>((zhb x.2.1).1,zjv (zhb x.2.1).2)
theorem zoS:Sound Tryz.prog base 112 zjc:=
 zD (cx':=zqq) zQ zB zL (zF trivial) Tryz.call112 Tryz.func112 (c:=body Tryz.f112) (by kernel_rfl) (zj (l:=[]) (by kernel_rfl) trivial) (sg:=⟨[.own 42],[]⟩) (A:=zkd) (res:=zjv) (W:=fun x=>zke x.2.1) (z:=default)
abbrev ttTslicesConcatapiAnnotationapiTerm0:=List (List Term)×Int×List (List Term)×Int×Int×Unit
abbrev ttTslicesConcatapiAnnotationapiTerm1:=List (List Term)×Int
abbrev ttTslicesConcatapiAnnotationapiTerm2:=Unit×List (List Term)×Int×Int×Unit
abbrev ttTslicesConcatapiAnnotationapiTerm3:=List Term×Unit
def zpj (slices:List (List Term)) (size:Int) (t9:List (List Term)) (t10:Int) (t11:Int):Wy ttTslicesConcatapiAnnotationapiTerm0 (Unit) ttTslicesConcatapiAnnotationapiTerm1:=.i (decide (t11<t10)) (.i (decide (0≤t11)&&decide (t11<Int.ofNat t9.length)) (.i (decide (IntKind.i64.wrap (size+Int.ofNat (List.length (t9.getD t11.toNat default)))<0)) .d (.h (slices,(IntKind.i64.wrap (size+Int.ofNat (List.length (t9.getD t11.toNat default)))),t9,t10,(IntKind.i64.wrap (t11+1)),()) ())) .d) (.k (slices,size))
def zeX (x:ttTslicesConcatapiAnnotationapiTerm0) (y:Unit):Wy ttTslicesConcatapiAnnotationapiTerm0 (Unit) ttTslicesConcatapiAnnotationapiTerm1:=zpj x.1 x.2.1 x.2.2.1 x.2.2.2.1 x.2.2.2.2.1
def zpm (n:Nat) (slices:List (List Term)) (size:Int) (t9:List (List Term)) (t10:Int) (t11:Int):Bool×ttTslicesConcatapiAnnotationapiTerm1:=zN (zeX) default n (slices,size,t9,t10,t11,()) ()
def ziP (r:ttTslicesConcatapiAnnotationapiTerm1):LTree ty:=.done (.exit 0) [.sl 23 r.1,.lit (.int .i64 r.2)] []
def ziV:LL ty ttTslicesConcatapiAnnotationapiTerm0:=za (lSl 23) (za (lInt .i64) (za (lSl 23) (za (lInt .i64) (za (lInt .i64) zS))))
def zjj:BL ty (Unit):=bNil
def zoV (t25:List (List Term)) (t26:Int) (t27:Int) (newslice:List Term):Wy ttTslicesConcatapiAnnotationapiTerm2 ttTslicesConcatapiAnnotationapiTerm3 (List Term):=.i (decide (t27<t26)) (.i (decide (0≤t27)&&decide (t27<Int.ofNat t25.length)) (.i (decide ((newslice.length+List.length (t25.getD t27.toNat default))*32≤zT)) (.h ((),t25,t26,(IntKind.i64.wrap (t27+1)),()) ((newslice++t25.getD t27.toNat default),())) .d) .d) (.k newslice)
def zeG (x:ttTslicesConcatapiAnnotationapiTerm2) (y:ttTslicesConcatapiAnnotationapiTerm3):Wy ttTslicesConcatapiAnnotationapiTerm2 ttTslicesConcatapiAnnotationapiTerm3 (List Term):=zoV x.2.1 x.2.2.1 x.2.2.2.1 y.1
def zoX (n:Nat) (t25:List (List Term)) (t26:Int) (t27:Int) (newslice:List Term):Bool×List Term:=zN (zeG) default n ((),t25,t26,t27,()) (newslice,())
def zix (r:List Term):LTree ty:=.done (.exit 2) [.own 144] [.arr 42 r false]
def ziN:LL ty ttTslicesConcatapiAnnotationapiTerm2:=za (lOwn 144) (za (lSl 23) (za (lInt .i64) (za (lInt .i64) zS)))
def ziM:BL ty ttTslicesConcatapiAnnotationapiTerm3:=bArr 42 false (bNil)
def ziO (x:ttTslicesConcatapiAnnotationapiTerm0) (y:Unit):Nat:=(x.1.length+Int.toNat x.2.1+x.2.2.1.length+Int.toNat x.2.2.2.1+Int.toNat x.2.2.2.2.1+1)
def ziq (x:ttTslicesConcatapiAnnotationapiTerm2) (y:ttTslicesConcatapiAnnotationapiTerm3):Nat:=(x.2.1.length+Int.toNat x.2.2.1+Int.toNat x.2.2.2.1+y.1.length+1)
def zeW:Cx ty:=mkCx base 36 [(112,zjc)] [] [(3,[(0,.keep),(3,.keep),(9,.keep),(10,.keep),(11,.keep)]),(11,[(6,.keep),(25,.keep),(26,.keep),(27,.keep)])] [(3,1,[(0,.keep),(3,.keep)]),(11,3,[(6,.keep)])] [(3,spW ziV zjj (zeX) default ziP ziO),(11,spW ziN ziM (zeG) default zix ziq)] [112]
theorem zoU:zbp zeW (lp (body Tryz.f55) 0):=zY (id:=3) (V:=ziV) (B:=zjj) (W:=zeX) (z:=default) (tr:=ziP) (m:=ziO)
theorem zoH:zbp zeW (lp (body Tryz.f55) 1):=zY (id:=11) (V:=ziN) (B:=ziM) (W:=zeG) (z:=default) (tr:=zix) (m:=ziq)
def zjx (slices:List (List Term)):Wy0 (List Term):=.bn (zpm (slices.length+Int.toNat 0+slices.length+(Int.ofNat slices.length).toNat +Int.toNat 0+1) slices 0 slices (Int.ofNat slices.length) 0) fun r2=>.bn (zhb r2.2) fun r1=>.bn (zoX (r2.1.length+(Int.ofNat r2.1.length).toNat +Int.toNat 0+r1.length+1) r2.1 (Int.ofNat r2.1.length) 0 r1) fun r0=>.k r0
def zf3 (slices:List (List Term)):Bool×List Term:=(zjx slices).fin default
def ziT (r:List Term):ARes ty:=⟨[.own 42 r],[]⟩
def zjt:AL base (List (List Term)×Unit):=zf (zg (vSl 23)) aNil
def ziA:Ab.Spec ty:=zr zjt fun x=>((zf3 x.1).1,ziT (zf3 x.1).2)
theorem zoe:Sound Tryz.prog base 55 ziA:=
 zD (cx':=zeW) zQ zB zL (zF ⟨zoS,trivial⟩) Tryz.call55 Tryz.func55 (c:=body Tryz.f55) (by kernel_rfl) (zj (l:=[lp (body Tryz.f55) 0,lp (body Tryz.f55) 1]) (by kernel_rfl) ⟨zoU,zoH,trivial⟩) (sg:=⟨[.own 42],[]⟩) (A:=zjt) (res:=ziT) (W:=fun x=>zjx x.1) (z:=default)
def zGb:Cx ty:=mkCx base0 22 [(31,annotation_Valid_spec),(53,zdU),(54,znk),(55,ziA)] [] [] [] [] []
def zAf (a:List Term) (b:List Term):Wy0 (List Term×Int):=.bn (zbK a) fun r4=>.i (!r4) (.k ([],1)) (.bn (zbK b) fun r3=>.i (!r3) (.k ([],1)) (.bn (zf3 [a,b]) fun r2=>.bn (zgL r2) fun r1=>.bn (zdq r1) fun r0=>.k (r0.1,r0.2)))
def zw4 (a:List Term) (b:List Term):Bool×(List Term×Int):=(zAf a b).fin default
def zx3 (r:List Term×Int):ARes ty:=⟨[.own 42 r.1,.pure (.lit (.int .i64 r.2))],[]⟩
def zzT:AL base0 (List Term×List Term×Unit):=zf (zg (vSl 42)) (zf (zg (vSl 42)) aNil)
def zqo:Ab.Spec ty:=zr zzT fun x=>((zw4 x.1 x.2.1).1,zx3 (zw4 x.1 x.2.1).2)
theorem zuN:Sound Tryz.prog base0 13 zqo:=
 zD (cx':=zGb) zQ zim zL (zF ⟨zcm.nodr,zeu.nodr,zrE,zoe.nodr,trivial⟩) Tryz.call13 Tryz.func13 (c:=body Tryz.f13) (by kernel_rfl) (zj (l:=[]) (by kernel_rfl) trivial) (sg:=⟨[.own 42,.pure],[]⟩) (A:=zzT) (res:=zx3) (W:=fun x=>zAf x.1 x.2.1) (z:=default)
def zEC:Cx ty:=mkCx base 9 [] [] [] [] [] []
def zxy (n_:Int):Wy0 (List Term):=.i (decide (n_<1)) (.k []) (.k [TermOf.mk (if 1152921504606846976<n_ then 1152921504606846976 else n_) []])
def ztM (n_:Int):Bool×List Term:=(zxy n_).fin default
def zvI (r:List Term):ARes ty:=⟨[.own 42 r],[]⟩
def zxA:AL base (Int×Unit):=zf (zg (vInt .i64)) aNil
def zoG:Ab.Spec ty:=zr zxA fun x=>((ztM x.1).1,zvI (ztM x.1).2)
theorem ztv:Sound Tryz.prog base 25 zoG:=
 zD (cx':=zEC) zQ zB zL (zF trivial) Tryz.call25 Tryz.func25 (c:=body Tryz.f25) (by kernel_rfl) (zj (l:=[]) (by kernel_rfl) trivial) (sg:=⟨[.own 42],[]⟩) (A:=zxA) (res:=zvI) (W:=fun x=>zxy x.1) (z:=default)
end Go.Proofs.YtnolcogncjijpaaGreatDoor
end
