/- Texts of this claim, joined (the program, its functions in plain words, and what they compute). -/
import Derived.WalkKit
import Derived.WalkSpells
import Derived.Test.YtnolcogncjijpaaGreatDoorGC1
import Derived.Test.YtnolcogncjijpaaGreatDoorGA2
import Derived.Test.YtnolcogncjijpaaGreatDoorGB1
set_option autoImplicit false
set_option linter.unusedVariables false
set_option linter.unusedSectionVars false
set_option linter.unusedSimpArgs false
set_option maxRecDepth 1000000
set_option maxHeartbeats 0
noncomputable section
namespace Go.Proofs.YtnolcogncjijpaaGreatDoor
open Go Go.Ab
abbrev ttTslicesIndexFuncLapiAnnotationapiAnnotationv10 := List (List Term) × Unit × Int × Int × Unit
def zko (zd : List Term → Bool × Bool) (s : List (List Term)) (t7 : Int) (t8 : Int) : Wy ttTslicesIndexFuncLapiAnnotationapiAnnotationv10 (Unit) (Int ⊕ Unit) := .i (decide (t8 < t7)) (.i (decide (0 ≤ t8) && decide (t8 < Int.ofNat s.length)) (.bn (zd (s.getD t8.toNat default)) fun r0 => .i (r0) (.k (.inl t8)) (.h (s, (), t7, (IntKind.i64.wrap (t8 + 1)), ()) ())) .d) (.k (.inr ()))
def zcQ (zd : List Term → Bool × Bool) (x : ttTslicesIndexFuncLapiAnnotationapiAnnotationv10) (y : Unit) : Wy ttTslicesIndexFuncLapiAnnotationapiAnnotationv10 (Unit) (Int ⊕ Unit) := zko zd x.1 x.2.2.1 x.2.2.2.1
def zke (zd : List Term → Bool × Bool) (n : Nat) (s : List (List Term)) (t7 : Int) (t8 : Int) : Bool × (Int ⊕ Unit) := z7 (zcQ zd) (.inl default) n (s, (), t7, t8, ()) ()
def zev (r : Int ⊕ Unit) : LTree ty := .ite (isL r) (.done .ret [.lit (.int .i64 (getL r))] []) (.done (.exit 0) [] [])
def zez : LL ty ttTslicesIndexFuncLapiAnnotationapiAnnotationv10 := za (lSl 23) (za (lFn 130 (zK)) (za (lInt .i64) (za (lInt .i64) zK)))
def zeB : BL ty (Unit) := bNil
def zel (x : ttTslicesIndexFuncLapiAnnotationapiAnnotationv10) (y : Unit) : Nat := (x.1.length + Int.toNat x.2.2.1 + Int.toNat x.2.2.2.1 + 1)
def zey (zd : List Term → Bool × Bool) : Cx ty := mkCx base 19 [(130, (zcJ zd))] [] [(2, [(0, .keep), (1, .keep), (7, .keep), (8, .keep)])] [(2, 1, []), (2, 0, [(4, .keep)])] [(2, spW zez zeB (zcQ zd) (.inl default) zev zel)] []
theorem zj3 (zd : List Term → Bool × Bool) : zY (zey zd) (lp (body Tryz.f163) 0) := zO (id := 2) (V := zez) (B := zeB) (W := zcQ zd) (z := .inl default) (tr := zev) (m := zel)
def zeH (zd : List Term → Bool × Bool) (s : List (List Term)) : Wy0 (Int) := .bn (zke zd (s.length + (Int.ofNat s.length).toNat + Int.toNat 0 + 1) s (Int.ofNat s.length) 0) fun r2 => .i (isL r2) (.k (getL r2)) (.k (-1 : Int))
def zb5 (zd : List Term → Bool × Bool) (s : List (List Term)) : Bool × Int := (zeH zd s).fin default
theorem zjA (zd : List Term → Bool × Bool) (zeG : Sound Tryz.prog base 130 (zcJ zd)) : Sound Tryz.prog base 163 (zb6 (zb5 zd)) :=
 zo (cx' := (zey zd)) zH zm zy (zn ⟨zeG, trivial⟩) Tryz.call163 Tryz.func163 (c := body Tryz.f163) (by kernel_rfl) (zh (l := [lp (body Tryz.f163) 0]) (by kernel_rfl) ⟨zj3 zd, trivial⟩) (sg := ⟨[.pure], []⟩) (A := ze9) (res := zeE) (W := fun x => zeH zd x.1) (z := default)
abbrev ttTslicesIndexFuncLapiWeightedapiWeightedv20 := List Weighted × Unit × Int × Int × Unit
def zlo (ze : Weighted → Bool × Bool) (s : List Weighted) (t7 : Int) (t8 : Int) : Wy ttTslicesIndexFuncLapiWeightedapiWeightedv20 (Unit) (Int ⊕ Unit) := .i (decide (t8 < t7)) (.i (decide (0 ≤ t8) && decide (t8 < Int.ofNat s.length)) (.bn (ze (s.getD t8.toNat default)) fun r0 => .i (r0) (.k (.inl t8)) (.h (s, (), t7, (IntKind.i64.wrap (t8 + 1)), ()) ())) .d) (.k (.inr ()))
def zdo (ze : Weighted → Bool × Bool) (x : ttTslicesIndexFuncLapiWeightedapiWeightedv20) (y : Unit) : Wy ttTslicesIndexFuncLapiWeightedapiWeightedv20 (Unit) (Int ⊕ Unit) := zlo ze x.1 x.2.2.1 x.2.2.2.1
def zln (ze : Weighted → Bool × Bool) (n : Nat) (s : List Weighted) (t7 : Int) (t8 : Int) : Bool × (Int ⊕ Unit) := z7 (zdo ze) (.inl default) n (s, (), t7, t8, ()) ()
def ze4 (r : Int ⊕ Unit) : LTree ty := .ite (isL r) (.done .ret [.lit (.int .i64 (getL r))] []) (.done (.exit 0) [] [])
def zfw : LL ty ttTslicesIndexFuncLapiWeightedapiWeightedv20 := za (lSl 52) (za (lFn 131 (zK)) (za (lInt .i64) (za (lInt .i64) zK)))
def zft : BL ty (Unit) := bNil
def ze6 (x : ttTslicesIndexFuncLapiWeightedapiWeightedv20) (y : Unit) : Nat := (x.1.length + Int.toNat x.2.2.1 + Int.toNat x.2.2.2.1 + 1)
def zfk (ze : Weighted → Bool × Bool) : Cx ty := mkCx base 19 [(131, (zcM ze))] [] [(2, [(0, .keep), (1, .keep), (7, .keep), (8, .keep)])] [(2, 1, []), (2, 0, [(4, .keep)])] [(2, spW zfw zft (zdo ze) (.inl default) ze4 ze6)] []
theorem zlb (ze : Weighted → Bool × Bool) : zY (zfk ze) (lp (body Tryz.f135) 0) := zO (id := 2) (V := zfw) (B := zft) (W := zdo ze) (z := .inl default) (tr := ze4) (m := ze6)
def zfM (ze : Weighted → Bool × Bool) (s : List Weighted) : Wy0 (Int) := .bn (zln ze (s.length + (Int.ofNat s.length).toNat + Int.toNat 0 + 1) s (Int.ofNat s.length) 0) fun r2 => .i (isL r2) (.k (getL r2)) (.k (-1 : Int))
def zcq (ze : Weighted → Bool × Bool) (s : List Weighted) : Bool × Int := (zfM ze s).fin default
theorem zkB (ze : Weighted → Bool × Bool) (zeI : Sound Tryz.prog base 131 (zcM ze)) : Sound Tryz.prog base 135 (zcr (zcq ze)) :=
 zo (cx' := (zfk ze)) zH zm zy (zn ⟨zeI, trivial⟩) Tryz.call135 Tryz.func135 (c := body Tryz.f135) (by kernel_rfl) (zh (l := [lp (body Tryz.f135) 0]) (by kernel_rfl) ⟨zlb ze, trivial⟩) (sg := ⟨[.pure], []⟩) (A := zgL) (res := zfJ) (W := fun x => zfM ze x.1) (z := default)
def zdu : Nat → (List Term → Bool × Bool) × (Atom → Bool × Bool) × (List Term → Bool × Bool) × (Weighted → Bool × Bool) × (List (List Term) → Bool × Int) × (List (List Term) → Bool × Bool) × (List Weighted → Bool × Int) × (List Weighted → Bool × Bool)
 | 0 => (fun _ => (false, default), fun _ => (false, default), fun _ => (false, default), fun _ => (false, default), fun _ => (false, default), fun _ => (false, default), fun _ => (false, default), fun _ => (false, default))
 | n + 1 => (zkD ((zdu n).2.1), zhZ ((zdu n).2.2.2.2.2.2.2) ((zdu n).2.2.2.2.2.1) ((zdu n).2.2.1) ((zdu n).2.2.2.1), zir ((zdu n).1), ziw ((zdu n).1), zb5 ((zdu n).2.2.1), zbU ((zdu n).2.2.1) ((zdu n).2.2.2.2.1), zcq ((zdu n).2.2.2.1), zcf ((zdu n).2.2.2.1) ((zdu n).2.2.2.2.2.2.1))
def zim (n : Nat) : List Term → Bool × Bool := (zdu n).1
def zkk (n : Nat) : Atom → Bool × Bool := (zdu n).2.1
def zd9 (n : Nat) : List Term → Bool × Bool := (zdu n).2.2.1
def zea (n : Nat) : Weighted → Bool × Bool := (zdu n).2.2.2.1
def zb7 (n : Nat) : List (List Term) → Bool × Int := (zdu n).2.2.2.2.1
def zbW (n : Nat) : List (List Term) → Bool × Bool := (zdu n).2.2.2.2.2.1
def zco (n : Nat) : List Weighted → Bool × Int := (zdu n).2.2.2.2.2.2.1
def zcg (n : Nat) : List Weighted → Bool × Bool := (zdu n).2.2.2.2.2.2.2
theorem zFD (n : Nat) : zim (n + 1) = zkD (zkk n) := rfl
theorem zA7 (n : Nat) : zkk (n + 1) = zhZ (zcg n) (zbW n) (zd9 n) (zea n) := rfl
theorem zxW (n : Nat) : zd9 (n + 1) = zir (zim n) := rfl
theorem zx7 (n : Nat) : zea (n + 1) = ziw (zim n) := rfl
theorem zkm (n : Nat) : zb7 (n + 1) = zb5 (zd9 n) := rfl
theorem zjC (n : Nat) : zbW (n + 1) = zbU (zd9 n) (zb7 n) := rfl
theorem zlq (n : Nat) : zco (n + 1) = zcq (zea n) := rfl
theorem zkL (n : Nat) : zcg (n + 1) = zcf (zea n) (zco n) := rfl
theorem zKp : ∀ n, Sound Tryz.prog base 31 (zgo (zim n)) ∧ Sound Tryz.prog base 74 (zkn (zkk n)) ∧ Sound Tryz.prog base 130 (zcJ (zd9 n)) ∧ Sound Tryz.prog base 131 (zcM (zea n)) ∧ Sound Tryz.prog base 163 (zb6 (zb7 n)) ∧ Sound Tryz.prog base 129 (zbS (zbW n)) ∧ Sound Tryz.prog base 135 (zcr (zco n)) ∧ Sound Tryz.prog base 76 (zcb (zcg n))
 | 0 => ⟨zbj Tryz.call31 (fun _ => rfl), zbj Tryz.call74 (fun _ => rfl), zbj Tryz.call130 (fun _ => rfl), zbj Tryz.call131 (fun _ => rfl), zbj Tryz.call163 (fun _ => rfl), zbj Tryz.call129 (fun _ => rfl), zbj Tryz.call135 (fun _ => rfl), zbj Tryz.call76 (fun _ => rfl)⟩
 | n + 1 => by
  have ih := zKp n
  exact ⟨zBO _ (ih.2.1), zxZ _ _ _ _ (ih.2.2.2.2.2.2.2) (ih.2.2.2.2.2.1) (ih.2.2.1) (ih.2.2.2.1), zvq _ (ih.1), zvp _ (ih.1), zjA _ (ih.2.2.1), ziI _ _ (ih.2.2.1) (ih.2.2.2.2.1), zkB _ (ih.2.2.2.1), zjY _ _ (ih.2.2.2.1) (ih.2.2.2.2.2.2.1)⟩
def zca : List Term → Bool × Bool := zim 1000
def annotation_Valid_spec : Ab.Spec ty := zgo zca
theorem zcS : Sound Tryz.prog base 31 annotation_Valid_spec := (zKp 1000).1
def zJC : Cx ty := mkCx base 3 [] [] [] [] [] []
def zCH : Wy0 (List Term) := .k [TermOf.mk 1 []]
def zou : Bool × List Term := (zCH).fin default
def zyW (r : List Term) : ARes ty := ⟨[.own 42 r], []⟩
def zCy : AL base (Unit) := aNil
def zjU : Ab.Spec ty := zk zCy fun x => ((zou ).1, zyW (zou ).2)
theorem zlY : Sound Tryz.prog base 29 zjU :=
 zo (cx' := zJC) zH zm zy (zn trivial) Tryz.call29 Tryz.func29 (c := body Tryz.f29) (by kernel_rfl) (zh (l := []) (by kernel_rfl) trivial) (sg := ⟨[.own 42], []⟩) (A := zCy) (res := zyW) (W := fun x => zCH ) (z := default)
def zuW (r : List Term) : ARes ty := ⟨[.own 42 r], []⟩
def zw1 : AL base (List Term × Unit) := zf (zg (vSl 42)) aNil
def zjR (F : List Term → Bool × List Term) : Ab.Spec ty := zk zw1 fun x => ((F x.1).1, zuW (F x.1).2)
def zqN (r : Atom) : ARes ty := ⟨[.pure (.agg (base.enc 48 r))], []⟩
def zsS : AL base (Atom × Unit) := zf (zg (vAgg 48)) aNil
def zjG (F : Atom → Bool × Atom) : Ab.Spec ty := zk zsS fun x => ((F x.1).1, zqN (F x.1).2)
def zdL : Cx ty := { base with nt := 8 }
def zeb (s : List Factor) : Bool × List Factor := (decide (s.length * 128 ≤ zV), s)
def zjg : Ab.Spec ty := zk (cx := base) (zf (zg (vSl 50)) aNil) fun x => ((zeb x.1).1, ⟨[.own 50 (zeb x.1).2], []⟩)
theorem zqn : zh6 zdL Tryz.f117 (body Tryz.f117) ⟨[.own 50], []⟩ [.pure (.lit (.slice none 0 0))] = some ⟨[.own 50 []], []⟩ := by kernel_rfl
theorem zo3 (p : Addr) (c : Nat) : zh6 zdL Tryz.f117 (body Tryz.f117) ⟨[.own 50], []⟩ [.pure (.lit (.slice (some p) 0 c))] = some ⟨[.own 50 []], []⟩ := by kernel_rfl
theorem zpF (l : List Factor) : zh6 zdL Tryz.f117 (body Tryz.f117) ⟨[.own 50], []⟩ [.pure (.sl 50 l)] = bif !l.isEmpty then bif decide ((([] : List (ty 50)).length + l.length) * 128 ≤ zV) then some ⟨[.own 50 l], []⟩ else none else none := by kernel_rfl
theorem zo4 : Sound Tryz.prog base 117 zjg :=
 zEr (cx' := zdL) (bytes := 128) zH zm ⟨⟨rfl, rfl, rfl, rfl, rfl, rfl⟩, rfl⟩ (fun g s h => by cases h) Tryz.call117 Tryz.func117 (c := body Tryz.f117) (by kernel_rfl) (zh (l := []) (by kernel_rfl) trivial) zqn zo3 zpF (by kernel_rfl)
abbrev ttTannotationcopied0 := Unit × Unit × Unit × List Term × Int × Int × Int × Int × Unit
abbrev ttTannotationcopied1 := List Term × Term × List Factor × Unit
abbrev ttTannotationcopied2 := List Term × Int × Int × List Term × Term × List Factor
abbrev ttTannotationcopied3 := Unit × List Term × Int × Int × Unit
abbrev ttTannotationcopied4 := List Term × Unit
def zhW (zB : Atom → Bool × Atom) (t8 : List Term) (t9 : Int) (t10 : Int) (t18 : Int) (t19 : Int) (out_ : List Term) (t : Term) (factors : List Factor) : Wy ttTannotationcopied0 ttTannotationcopied1 ttTannotationcopied2 := .i (decide (t19 < t18)) (.i (decide (0 ≤ t19) && decide (t19 < Int.ofNat factors.length)) (.bn (zB (Atom.mk (factors.getD t19.toNat default).Atom.Kind (factors.getD t19.toNat default).Atom.Row (factors.getD t19.toNat default).Atom.Args (factors.getD t19.toNat default).Atom.Func (factors.getD t19.toNat default).Atom.Items (factors.getD t19.toNat default).Atom.Op (factors.getD t19.toNat default).Atom.Bound)) fun r2 => .i (decide (0 ≤ t19) && decide (t19 < Int.ofNat factors.length)) (.i (decide (t19.toNat < factors.length)) (.h ((), (), (), t8, t9, t10, t18, (IntKind.i64.wrap (t19 + 1)), ()) (out_, t, (factors.set t19.toNat (FactorOf.mk (Atom.mk r2.Kind r2.Row r2.Args r2.Func r2.Items r2.Op r2.Bound) (factors.getD t19.toNat default).Exp)), ())) .d) .d) .d) (.k (t8, t9, t10, out_, t, factors))
def zkf (zB : Atom → Bool × Atom) (x : ttTannotationcopied0) (y : ttTannotationcopied1) : Wy ttTannotationcopied0 ttTannotationcopied1 ttTannotationcopied2 := zhW zB x.2.2.2.1 x.2.2.2.2.1 x.2.2.2.2.2.1 x.2.2.2.2.2.2.1 x.2.2.2.2.2.2.2.1 y.1 y.2.1 y.2.2.1
def ztt (zB : Atom → Bool × Atom) (n : Nat) (t8 : List Term) (t9 : Int) (t10 : Int) (t18 : Int) (t19 : Int) (out_ : List Term) (t : Term) (factors : List Factor) : Bool × ttTannotationcopied2 := z7 (zkf zB) default n ((), (), (), t8, t9, t10, t18, t19, ()) (out_, t, factors, ())
def zsP (r : ttTannotationcopied2) : LTree ty := .done (.exit 2) [.own 168, .ptr 169 0, .own 170, .sl 42 r.1, .lit (.int .i64 r.2.1), .lit (.int .i64 r.2.2.1)] [.arr 42 r.2.2.2.1 false, .box (base.enc 42 r.2.2.2.2.1) false, .arr 50 r.2.2.2.2.2 false]
def zt1 : LL ty ttTannotationcopied0 := za (lOwn 168) (za (zg3 169 0) (za (lOwn 170) (za (lSl 42) (za (lInt .i64) (za (lInt .i64) (za (lInt .i64) (za (lInt .i64) zK)))))))
def ztI : BL ty ttTannotationcopied1 := bArr 42 false (bBox (ziu (fun x => (⟨x.1, x.2.1⟩ : Term)) (fun x => (x.Coeff, x.Factors, ())) (fun _ => rfl) (za (lInt .i64) (za (lSl 50) zK))) false (bArr 50 false (bNil)))
def zhQ (zB : Atom → Bool × Atom) (t8 : List Term) (t9 : Int) (t10 : Int) (out_ : List Term) : Wy ttTannotationcopied3 ttTannotationcopied4 (List Term) := .i (decide (t10 < t9)) (.i (decide (0 ≤ t10) && decide (t10 < Int.ofNat t8.length)) (.bn (zeb (t8.getD t10.toNat default).Factors) fun r5 => .bn (ztt zB (t8.length + t9.toNat + t10.toNat + (Int.ofNat r5.length).toNat + Int.toNat 0 + out_.length + (t8.getD t10.toNat default).Factors.length + r5.length + 1) t8 t9 t10 (Int.ofNat r5.length) 0 out_ (t8.getD t10.toNat default) r5) fun r4 => .i (decide ((r4.2.2.2.1.length + [TermOf.mk r4.2.2.2.2.1.Coeff r4.2.2.2.2.2].length) * 32 ≤ zV)) (.h ((), (r4.1), (r4.2.1), (IntKind.i64.wrap (r4.2.2.1 + 1)), ()) ((r4.2.2.2.1 ++ [TermOf.mk r4.2.2.2.2.1.Coeff r4.2.2.2.2.2]), ())) .d) .d) (.k out_)
def zki (zB : Atom → Bool × Atom) (x : ttTannotationcopied3) (y : ttTannotationcopied4) : Wy ttTannotationcopied3 ttTannotationcopied4 (List Term) := zhQ zB x.2.1 x.2.2.1 x.2.2.2.1 y.1
def ztB (zB : Atom → Bool × Atom) (n : Nat) (t8 : List Term) (t9 : Int) (t10 : Int) (out_ : List Term) : Bool × List Term := z7 (zki zB) default n ((), t8, t9, t10, ()) (out_, ())
def zsG (r : List Term) : LTree ty := .done (.exit 0) [.own 168] [.arr 42 r false]
def ztM : LL ty ttTannotationcopied3 := za (lOwn 168) (za (lSl 42) (za (lInt .i64) (za (lInt .i64) zK)))
def ztD : BL ty ttTannotationcopied4 := bArr 42 false (bNil)
def zsF (x : ttTannotationcopied0) (y : ttTannotationcopied1) : Nat := (x.2.2.2.1.length + Int.toNat x.2.2.2.2.1 + Int.toNat x.2.2.2.2.2.1 + Int.toNat x.2.2.2.2.2.2.1 + Int.toNat x.2.2.2.2.2.2.2.1 + y.1.length + y.2.1.Factors.length + y.2.2.1.length + 1)
def zs4 (x : ttTannotationcopied3) (y : ttTannotationcopied4) : Nat := (x.2.1.length + Int.toNat x.2.2.1 + Int.toNat x.2.2.2.1 + y.1.length + 1)
def znJ (zB : Atom → Bool × Atom) : Cx ty := mkCx base 42 [(117, zjg), (118, (zjG zB))] [] [(3, [(3, .own 42), (8, .keep), (9, .keep), (10, .keep)]), (7, [(3, .keep), (5, .keep), (6, .keep), (8, .keep), (9, .keep), (10, .keep), (18, .keep), (19, .keep)])] [(3, 1, [(3, .keep)]), (7, 3, [(3, .keep), (5, .keep), (6, .keep), (8, .keep), (9, .keep), (10, .keep)])] [(7, spW zt1 ztI (zkf zB) default zsP zsF), (3, spW ztM ztD (zki zB) default zsG zs4)] []
theorem zC8 (zB : Atom → Bool × Atom) : zY (znJ zB) (lp (body Tryz.f61) 1) := zO (id := 7) (V := zt1) (B := ztI) (W := zkf zB) (z := default) (tr := zsP) (m := zsF)
theorem zDk (zB : Atom → Bool × Atom) : zY (znJ zB) (lp (body Tryz.f61) 0) := zO (id := 3) (V := ztM) (B := ztD) (W := zki zB) (z := default) (tr := zsG) (m := zs4)
def zop (zB : Atom → Bool × Atom) (a : List Term) : Wy0 (List Term) := .bn (ztB zB (a.length + (Int.ofNat a.length).toNat + Int.toNat 0 + 0 + 1) a (Int.ofNat a.length) 0 []) fun r8 => .k r8
def zjX (zB : Atom → Bool × Atom) (a : List Term) : Bool × List Term := (zop zB a).fin default
theorem zBd (zB : Atom → Bool × Atom) (zBb : Sound Tryz.prog base 118 (zjG zB)) : Sound Tryz.prog base 61 (zjR (zjX zB)) :=
 zo (cx' := (znJ zB)) zH zm zy (zn ⟨zo4, zBb, trivial⟩) Tryz.call61 Tryz.func61 (c := body Tryz.f61) (by kernel_rfl) (zh (l := [lp (body Tryz.f61) 0, lp (body Tryz.f61) 1]) (by kernel_rfl) ⟨zDk zB, zC8 zB, trivial⟩) (sg := ⟨[.own 42], []⟩) (A := zw1) (res := zuW) (W := fun x => zop zB x.1) (z := default)
def zcE : Cx ty := { base with nt := 8 }
def zcY (s : List (List Term)) : Bool × List (List Term) := (decide (s.length * 24 ≤ zV), s)
def zgG : Ab.Spec ty := zk (cx := base) (zf (zg (vSl 23)) aNil) fun x => ((zcY x.1).1, ⟨[.own 23 (zcY x.1).2], []⟩)
theorem zmU : zh6 zcE Tryz.f159 (body Tryz.f159) ⟨[.own 23], []⟩ [.pure (.lit (.slice none 0 0))] = some ⟨[.own 23 []], []⟩ := by kernel_rfl
theorem zmj (p : Addr) (c : Nat) : zh6 zcE Tryz.f159 (body Tryz.f159) ⟨[.own 23], []⟩ [.pure (.lit (.slice (some p) 0 c))] = some ⟨[.own 23 []], []⟩ := by kernel_rfl
theorem zmp (l : List (List Term)) : zh6 zcE Tryz.f159 (body Tryz.f159) ⟨[.own 23], []⟩ [.pure (.sl 23 l)] = bif !l.isEmpty then bif decide ((([] : List (ty 23)).length + l.length) * 24 ≤ zV) then some ⟨[.own 23 l], []⟩ else none else none := by kernel_rfl
theorem zmd : Sound Tryz.prog base 159 zgG :=
 zEr (cx' := zcE) (bytes := 24) zH zm ⟨⟨rfl, rfl, rfl, rfl, rfl, rfl⟩, rfl⟩ (fun g s h => by cases h) Tryz.call159 Tryz.func159 (c := body Tryz.f159) (by kernel_rfl) (zh (l := []) (by kernel_rfl) trivial) zmU zmj zmp (by kernel_rfl)
def zda : Cx ty := { base with nt := 8 }
def zdE (s : List Weighted) : Bool × List Weighted := (decide (s.length * 56 ≤ zV), s)
def zhV : Ab.Spec ty := zk (cx := base) (zf (zg (vSl 52)) aNil) fun x => ((zdE x.1).1, ⟨[.own 52 (zdE x.1).2], []⟩)
theorem zoc : zh6 zda Tryz.f160 (body Tryz.f160) ⟨[.own 52], []⟩ [.pure (.lit (.slice none 0 0))] = some ⟨[.own 52 []], []⟩ := by kernel_rfl
theorem znq (p : Addr) (c : Nat) : zh6 zda Tryz.f160 (body Tryz.f160) ⟨[.own 52], []⟩ [.pure (.lit (.slice (some p) 0 c))] = some ⟨[.own 52 []], []⟩ := by kernel_rfl
theorem znY (l : List Weighted) : zh6 zda Tryz.f160 (body Tryz.f160) ⟨[.own 52], []⟩ [.pure (.sl 52 l)] = bif !l.isEmpty then bif decide ((([] : List (ty 52)).length + l.length) * 56 ≤ zV) then some ⟨[.own 52 l], []⟩ else none else none := by kernel_rfl
theorem znm : Sound Tryz.prog base 160 zhV :=
 zEr (cx' := zda) (bytes := 56) zH zm ⟨⟨rfl, rfl, rfl, rfl, rfl, rfl⟩, rfl⟩ (fun g s h => by cases h) Tryz.call160 Tryz.func160 (c := body Tryz.f160) (by kernel_rfl) (zh (l := []) (by kernel_rfl) trivial) zoc znq znY (by kernel_rfl)
abbrev ttTannotationcopiedAtom0 := Unit × Unit × Int × Int × Unit
abbrev ttTannotationcopiedAtom1 := (Int × Int × Int × Unit × Int × List Weighted × Int × Int × Int × ByteArray × Unit) × (Int × Int × Int × Unit × Int × Unit × Int × Int × Int × ByteArray × Unit) × List (List Term) × Unit
abbrev ttTannotationcopiedAtom2 := Int × Int × Int × Int × List Weighted × Int × Int × Int × ByteArray × Int × Int × Int × Int × Int × Int × Int × ByteArray × List (List Term)
abbrev ttTannotationcopiedAtom3 := (Int × Int × Int × Unit × Int × Unit × Int × Int × Int × ByteArray × Unit) × (Int × Int × Int × Unit × Int × Unit × Int × Int × Int × ByteArray × Unit) × List (List Term) × List Weighted × Unit
abbrev ttTannotationcopiedAtom4 := Int × Int × Int × Int × Int × Int × Int × ByteArray × Int × Int × Int × Int × Int × Int × Int × ByteArray × List (List Term) × List Weighted
def ze3 (zN : List Term → Bool × List Term) (t11 : Int) (t12 : Int) (x_0 : Int) (x_1 : Int) (x_2 : Int) (x_3 : Int) (x_4 : List Weighted) (x_5 : Int) (x_6 : Int) (x_7 : Int) (x_8 : ByteArray) (t2_0 : Int) (t2_1 : Int) (t2_2 : Int) (t2_3 : Int) (t2_4 : Int) (t2_5 : Int) (t2_6 : Int) (t2_7 : ByteArray) (b2 : List (List Term)) : Wy ttTannotationcopiedAtom0 ttTannotationcopiedAtom1 ttTannotationcopiedAtom2 := .i (decide (t12 < t11)) (.i (decide (0 ≤ t12) && decide (t12 < Int.ofNat b2.length)) (.bn (zN (b2.getD t12.toNat default)) fun r0 => .i (decide (0 ≤ t12) && decide (t12 < Int.ofNat b2.length)) (.i (decide (t12.toNat < b2.length)) (.h ((), (), t11, (IntKind.i64.wrap (t12 + 1)), ()) ((x_0, x_1, x_2, (), x_3, x_4, x_5, x_6, x_7, x_8, ()), (t2_0, t2_1, t2_2, (), t2_3, (), t2_4, t2_5, t2_6, t2_7, ()), (b2.set t12.toNat r0), ())) .d) .d) .d) (.k (x_0, x_1, x_2, x_3, x_4, x_5, x_6, x_7, x_8, t2_0, t2_1, t2_2, t2_3, t2_4, t2_5, t2_6, t2_7, b2))
def zh2 (zN : List Term → Bool × List Term) (x : ttTannotationcopiedAtom0) (y : ttTannotationcopiedAtom1) : Wy ttTannotationcopiedAtom0 ttTannotationcopiedAtom1 ttTannotationcopiedAtom2 := ze3 zN x.2.2.1 x.2.2.2.1 y.1.1 y.1.2.1 y.1.2.2.1 y.1.2.2.2.2.1 y.1.2.2.2.2.2.1 y.1.2.2.2.2.2.2.1 y.1.2.2.2.2.2.2.2.1 y.1.2.2.2.2.2.2.2.2.1 y.1.2.2.2.2.2.2.2.2.2.1 y.2.1.1 y.2.1.2.1 y.2.1.2.2.1 y.2.1.2.2.2.2.1 y.2.1.2.2.2.2.2.2.1 y.2.1.2.2.2.2.2.2.2.1 y.2.1.2.2.2.2.2.2.2.2.1 y.2.1.2.2.2.2.2.2.2.2.2.1 y.2.2.1
def zpV (zN : List Term → Bool × List Term) (n : Nat) (t11 : Int) (t12 : Int) (x_0 : Int) (x_1 : Int) (x_2 : Int) (x_3 : Int) (x_4 : List Weighted) (x_5 : Int) (x_6 : Int) (x_7 : Int) (x_8 : ByteArray) (t2_0 : Int) (t2_1 : Int) (t2_2 : Int) (t2_3 : Int) (t2_4 : Int) (t2_5 : Int) (t2_6 : Int) (t2_7 : ByteArray) (b2 : List (List Term)) : Bool × ttTannotationcopiedAtom2 := z7 (zh2 zN) default n ((), (), t11, t12, ()) ((x_0, x_1, x_2, (), x_3, x_4, x_5, x_6, x_7, x_8, ()), (t2_0, t2_1, t2_2, (), t2_3, (), t2_4, t2_5, t2_6, t2_7, ()), b2, ())
def zpb (r : ttTannotationcopiedAtom2) : LTree ty := .done (.exit 0) [.ptr 200 0, .ptr 201 0] [.box ([.lit (.int .i64 r.1), .lit (.int .i64 r.2.1), .lit (.int .i64 r.2.2.1), .own 202, .lit (.int .i64 r.2.2.2.1), .sl 52 r.2.2.2.2.1, .lit (.int .i64 r.2.2.2.2.2.1), .lit (.int .i64 r.2.2.2.2.2.2.1), .lit (.int .i64 r.2.2.2.2.2.2.2.1), .lit (.string r.2.2.2.2.2.2.2.2.1)]) false, .box ([.lit (.int .i64 r.2.2.2.2.2.2.2.2.2.1), .lit (.int .i64 r.2.2.2.2.2.2.2.2.2.2.1), .lit (.int .i64 r.2.2.2.2.2.2.2.2.2.2.2.1), .lit (.slice none 0 0), .lit (.int .i64 r.2.2.2.2.2.2.2.2.2.2.2.2.1), .lit (.slice none 0 0), .lit (.int .i64 r.2.2.2.2.2.2.2.2.2.2.2.2.2.1), .lit (.int .i64 r.2.2.2.2.2.2.2.2.2.2.2.2.2.2.1), .lit (.int .i64 r.2.2.2.2.2.2.2.2.2.2.2.2.2.2.2.1), .lit (.string r.2.2.2.2.2.2.2.2.2.2.2.2.2.2.2.2.1)]) false, .arr 23 r.2.2.2.2.2.2.2.2.2.2.2.2.2.2.2.2.2 false]
def zp1 : LL ty ttTannotationcopiedAtom0 := za (zg3 200 0) (za (zg3 201 0) (za (lInt .i64) (za (lInt .i64) zK)))
def zpZ : BL ty ttTannotationcopiedAtom1 := bBox (za (lInt .i64) (za (lInt .i64) (za (lInt .i64) (za (lOwn 202) (za (lInt .i64) (za (lSl 52) (za (lInt .i64) (za (lInt .i64) (za (lInt .i64) (za lStr zK)))))))))) false (bBox (za (lInt .i64) (za (lInt .i64) (za (lInt .i64) (za lNil (za (lInt .i64) (za lNil (za (lInt .i64) (za (lInt .i64) (za (lInt .i64) (za lStr zK)))))))))) false (bArr 23 false (bNil)))
def zfa (zN : List Term → Bool × List Term) (t32 : Int) (t33 : Int) (x_0 : Int) (x_1 : Int) (x_2 : Int) (x_3 : Int) (x_4 : Int) (x_5 : Int) (x_6 : Int) (x_7 : ByteArray) (t2_0 : Int) (t2_1 : Int) (t2_2 : Int) (t2_3 : Int) (t2_4 : Int) (t2_5 : Int) (t2_6 : Int) (t2_7 : ByteArray) (b2 : List (List Term)) (b3 : List Weighted) : Wy ttTannotationcopiedAtom0 ttTannotationcopiedAtom3 ttTannotationcopiedAtom4 := .i (decide (t33 < t32)) (.i (decide (0 ≤ t33) && decide (t33 < Int.ofNat b3.length)) (.bn (zN (b3.getD t33.toNat default).Ann) fun r2 => .i (decide (0 ≤ t33) && decide (t33 < Int.ofNat b3.length)) (.i (decide (t33.toNat < b3.length)) (.h ((), (), t32, (IntKind.i64.wrap (t33 + 1)), ()) ((x_0, x_1, x_2, (), x_3, (), x_4, x_5, x_6, x_7, ()), (t2_0, t2_1, t2_2, (), t2_3, (), t2_4, t2_5, t2_6, t2_7, ()), b2, (b3.set t33.toNat (WeightedOf.mk (b3.getD t33.toNat default).Value r2)), ())) .d) .d) .d) (.k (x_0, x_1, x_2, x_3, x_4, x_5, x_6, x_7, t2_0, t2_1, t2_2, t2_3, t2_4, t2_5, t2_6, t2_7, b2, b3))
def zh0 (zN : List Term → Bool × List Term) (x : ttTannotationcopiedAtom0) (y : ttTannotationcopiedAtom3) : Wy ttTannotationcopiedAtom0 ttTannotationcopiedAtom3 ttTannotationcopiedAtom4 := zfa zN x.2.2.1 x.2.2.2.1 y.1.1 y.1.2.1 y.1.2.2.1 y.1.2.2.2.2.1 y.1.2.2.2.2.2.2.1 y.1.2.2.2.2.2.2.2.1 y.1.2.2.2.2.2.2.2.2.1 y.1.2.2.2.2.2.2.2.2.2.1 y.2.1.1 y.2.1.2.1 y.2.1.2.2.1 y.2.1.2.2.2.2.1 y.2.1.2.2.2.2.2.2.1 y.2.1.2.2.2.2.2.2.2.1 y.2.1.2.2.2.2.2.2.2.2.1 y.2.1.2.2.2.2.2.2.2.2.2.1 y.2.2.1 y.2.2.2.1
def zp0 (zN : List Term → Bool × List Term) (n : Nat) (t32 : Int) (t33 : Int) (x_0 : Int) (x_1 : Int) (x_2 : Int) (x_3 : Int) (x_4 : Int) (x_5 : Int) (x_6 : Int) (x_7 : ByteArray) (t2_0 : Int) (t2_1 : Int) (t2_2 : Int) (t2_3 : Int) (t2_4 : Int) (t2_5 : Int) (t2_6 : Int) (t2_7 : ByteArray) (b2 : List (List Term)) (b3 : List Weighted) : Bool × ttTannotationcopiedAtom4 := z7 (zh0 zN) default n ((), (), t32, t33, ()) ((x_0, x_1, x_2, (), x_3, (), x_4, x_5, x_6, x_7, ()), (t2_0, t2_1, t2_2, (), t2_3, (), t2_4, t2_5, t2_6, t2_7, ()), b2, b3, ())
def zpi (r : ttTannotationcopiedAtom4) : LTree ty := .done (.exit 2) [.ptr 200 0, .ptr 201 0] [.box ([.lit (.int .i64 r.1), .lit (.int .i64 r.2.1), .lit (.int .i64 r.2.2.1), .own 202, .lit (.int .i64 r.2.2.2.1), .own 203, .lit (.int .i64 r.2.2.2.2.1), .lit (.int .i64 r.2.2.2.2.2.1), .lit (.int .i64 r.2.2.2.2.2.2.1), .lit (.string r.2.2.2.2.2.2.2.1)]) false, .box ([.lit (.int .i64 r.2.2.2.2.2.2.2.2.1), .lit (.int .i64 r.2.2.2.2.2.2.2.2.2.1), .lit (.int .i64 r.2.2.2.2.2.2.2.2.2.2.1), .lit (.slice none 0 0), .lit (.int .i64 r.2.2.2.2.2.2.2.2.2.2.2.1), .lit (.slice none 0 0), .lit (.int .i64 r.2.2.2.2.2.2.2.2.2.2.2.2.1), .lit (.int .i64 r.2.2.2.2.2.2.2.2.2.2.2.2.2.1), .lit (.int .i64 r.2.2.2.2.2.2.2.2.2.2.2.2.2.2.1), .lit (.string r.2.2.2.2.2.2.2.2.2.2.2.2.2.2.2.1)]) false, .arr 23 r.2.2.2.2.2.2.2.2.2.2.2.2.2.2.2.2.1 false, .arr 52 r.2.2.2.2.2.2.2.2.2.2.2.2.2.2.2.2.2 false]
def zp2 : LL ty ttTannotationcopiedAtom0 := za (zg3 200 0) (za (zg3 201 0) (za (lInt .i64) (za (lInt .i64) zK)))
def zp6 : BL ty ttTannotationcopiedAtom3 := bBox (za (lInt .i64) (za (lInt .i64) (za (lInt .i64) (za (lOwn 202) (za (lInt .i64) (za (lOwn 203) (za (lInt .i64) (za (lInt .i64) (za (lInt .i64) (za lStr zK)))))))))) false (bBox (za (lInt .i64) (za (lInt .i64) (za (lInt .i64) (za lNil (za (lInt .i64) (za lNil (za (lInt .i64) (za (lInt .i64) (za (lInt .i64) (za lStr zK)))))))))) false (bArr 23 false (bArr 52 false (bNil))))
def zph (x : ttTannotationcopiedAtom0) (y : ttTannotationcopiedAtom1) : Nat := (Int.toNat x.2.2.1 + Int.toNat x.2.2.2.1 + Int.toNat y.1.1 + Int.toNat y.1.2.1 + Int.toNat y.1.2.2.1 + Int.toNat y.1.2.2.2.2.1 + y.1.2.2.2.2.2.1.length + Int.toNat y.1.2.2.2.2.2.2.1 + Int.toNat y.1.2.2.2.2.2.2.2.1 + Int.toNat y.1.2.2.2.2.2.2.2.2.1 + y.1.2.2.2.2.2.2.2.2.2.1.size + Int.toNat y.2.1.1 + Int.toNat y.2.1.2.1 + Int.toNat y.2.1.2.2.1 + Int.toNat y.2.1.2.2.2.2.1 + Int.toNat y.2.1.2.2.2.2.2.2.1 + Int.toNat y.2.1.2.2.2.2.2.2.2.1 + Int.toNat y.2.1.2.2.2.2.2.2.2.2.1 + y.2.1.2.2.2.2.2.2.2.2.2.1.size + y.2.2.1.length + 1)
def zo5 (x : ttTannotationcopiedAtom0) (y : ttTannotationcopiedAtom3) : Nat := (Int.toNat x.2.2.1 + Int.toNat x.2.2.2.1 + Int.toNat y.1.1 + Int.toNat y.1.2.1 + Int.toNat y.1.2.2.1 + Int.toNat y.1.2.2.2.2.1 + Int.toNat y.1.2.2.2.2.2.2.1 + Int.toNat y.1.2.2.2.2.2.2.2.1 + Int.toNat y.1.2.2.2.2.2.2.2.2.1 + y.1.2.2.2.2.2.2.2.2.2.1.size + Int.toNat y.2.1.1 + Int.toNat y.2.1.2.1 + Int.toNat y.2.1.2.2.1 + Int.toNat y.2.1.2.2.2.2.1 + Int.toNat y.2.1.2.2.2.2.2.2.1 + Int.toNat y.2.1.2.2.2.2.2.2.2.1 + Int.toNat y.2.1.2.2.2.2.2.2.2.2.1 + y.2.1.2.2.2.2.2.2.2.2.2.1.size + y.2.2.1.length + y.2.2.2.1.length + 1)
def zlk (zN : List Term → Bool × List Term) : Cx ty := mkCx base 50 [(61, (zjR zN)), (159, zgG), (160, zhV)] [] [(3, [(1, .keep), (2, .keep), (11, .keep), (12, .keep)]), (9, [(1, .keep), (2, .keep), (32, .keep), (33, .keep)])] [(3, 1, [(1, .keep), (2, .keep)]), (9, 3, [(1, .keep), (2, .keep)])] [(3, spW zp1 zpZ (zh2 zN) default zpb zph), (9, spW zp2 zp6 (zh0 zN) default zpi zo5)] []
theorem zyB (zN : List Term → Bool × List Term) : zY (zlk zN) (lp (body Tryz.f118) 0) := zO (id := 3) (V := zp1) (B := zpZ) (W := zh2 zN) (z := default) (tr := zpb) (m := zph)
theorem zy4 (zN : List Term → Bool × List Term) : zY (zlk zN) (lp (body Tryz.f118) 1) := zO (id := 9) (V := zp2) (B := zp6) (W := zh0 zN) (z := default) (tr := zpi) (m := zo5)
def zlK (zN : List Term → Bool × List Term) (x_ : Atom) : Wy0 (Atom) := .bn (zcY x_.Args) fun r7 => .bn (zpV zN ((Int.ofNat r7.length).toNat + Int.toNat 0 + x_.Kind.toNat + x_.Row.Table.toNat + x_.Row.Seq.toNat + x_.Func.toNat + x_.Items.length + x_.Op.toNat + x_.Bound.Kind.toNat + x_.Bound.Int.toNat + x_.Bound.Text.size + Int.toNat 0 + Int.toNat 0 + Int.toNat 0 + Int.toNat 0 + Int.toNat 0 + Int.toNat 0 + Int.toNat 0 + (ByteArray.mk #[]).size + r7.length + 1) (Int.ofNat r7.length) 0 x_.Kind x_.Row.Table x_.Row.Seq x_.Func x_.Items x_.Op x_.Bound.Kind x_.Bound.Int x_.Bound.Text 0 0 0 0 0 0 0 (ByteArray.mk #[]) r7) fun r6 => .bn (zdE r6.2.2.2.2.1) fun r5 => .bn (zp0 zN ((Int.ofNat r5.length).toNat + Int.toNat 0 + r6.1.toNat + r6.2.1.toNat + r6.2.2.1.toNat + r6.2.2.2.1.toNat + r6.2.2.2.2.2.1.toNat + r6.2.2.2.2.2.2.1.toNat + r6.2.2.2.2.2.2.2.1.toNat + r6.2.2.2.2.2.2.2.2.1.size + r6.2.2.2.2.2.2.2.2.2.1.toNat + r6.2.2.2.2.2.2.2.2.2.2.1.toNat + r6.2.2.2.2.2.2.2.2.2.2.2.1.toNat + r6.2.2.2.2.2.2.2.2.2.2.2.2.1.toNat + r6.2.2.2.2.2.2.2.2.2.2.2.2.2.1.toNat + r6.2.2.2.2.2.2.2.2.2.2.2.2.2.2.1.toNat + r6.2.2.2.2.2.2.2.2.2.2.2.2.2.2.2.1.toNat + r6.2.2.2.2.2.2.2.2.2.2.2.2.2.2.2.2.1.size + r6.2.2.2.2.2.2.2.2.2.2.2.2.2.2.2.2.2.length + r5.length + 1) (Int.ofNat r5.length) 0 r6.1 r6.2.1 r6.2.2.1 r6.2.2.2.1 r6.2.2.2.2.2.1 r6.2.2.2.2.2.2.1 r6.2.2.2.2.2.2.2.1 r6.2.2.2.2.2.2.2.2.1 r6.2.2.2.2.2.2.2.2.2.1 r6.2.2.2.2.2.2.2.2.2.2.1 r6.2.2.2.2.2.2.2.2.2.2.2.1 r6.2.2.2.2.2.2.2.2.2.2.2.2.1 r6.2.2.2.2.2.2.2.2.2.2.2.2.2.1 r6.2.2.2.2.2.2.2.2.2.2.2.2.2.2.1 r6.2.2.2.2.2.2.2.2.2.2.2.2.2.2.2.1 r6.2.2.2.2.2.2.2.2.2.2.2.2.2.2.2.2.1 r6.2.2.2.2.2.2.2.2.2.2.2.2.2.2.2.2.2 r5) fun r4 => .k (⟨r4.1, (⟨r4.2.1, r4.2.2.1⟩ : RowID), r4.2.2.2.2.2.2.2.2.2.2.2.2.2.2.2.2.1, r4.2.2.2.1, r4.2.2.2.2.2.2.2.2.2.2.2.2.2.2.2.2.2, r4.2.2.2.2.1, (⟨r4.2.2.2.2.2.1, r4.2.2.2.2.2.2.1, r4.2.2.2.2.2.2.2.1⟩ : Value)⟩ : Atom)
def zhg (zN : List Term → Bool × List Term) (x_ : Atom) : Bool × Atom := (zlK zN x_).fin default
theorem zwM (zN : List Term → Bool × List Term) (zFK : Sound Tryz.prog base 61 (zjR zN)) : Sound Tryz.prog base 118 (zjG (zhg zN)) :=
 zo (cx' := (zlk zN)) zH zm zy (zn ⟨zFK, zmd, znm, trivial⟩) Tryz.call118 Tryz.func118 (c := body Tryz.f118) (by kernel_rfl) (zh (l := [lp (body Tryz.f118) 0, lp (body Tryz.f118) 1]) (by kernel_rfl) ⟨zyB zN, zy4 zN, trivial⟩) (sg := ⟨[.pure], []⟩) (A := zsS) (res := zqN) (W := fun x => zlK zN x.1) (z := default)
def zAZ : Nat → (List Term → Bool × List Term) × (Atom → Bool × Atom)
 | 0 => (fun _ => (false, default), fun _ => (false, default))
 | n + 1 => (zjX ((zAZ n).2), zhg ((zAZ n).1))
def zjZ (n : Nat) : List Term → Bool × List Term := (zAZ n).1
def zjM (n : Nat) : Atom → Bool × Atom := (zAZ n).2
theorem zEP (n : Nat) : zjZ (n + 1) = zjX (zjM n) := rfl
theorem zz9 (n : Nat) : zjM (n + 1) = zhg (zjZ n) := rfl
theorem zIJ : ∀ n, Sound Tryz.prog base 61 (zjR (zjZ n)) ∧ Sound Tryz.prog base 118 (zjG (zjM n))
 | 0 => ⟨zbj Tryz.call61 (fun _ => rfl), zbj Tryz.call118 (fun _ => rfl)⟩
 | n + 1 => by
  have ih := zIJ n
  exact ⟨zBd _ (ih.2), zwM _ (ih.1)⟩
def zfr : List Term → Bool × List Term := zjZ 1000
def annotation_copied_spec : Ab.Spec ty := zjR zfr
theorem zhq : Sound Tryz.prog base 61 annotation_copied_spec := (zIJ 1000).1
def zE6 : Cx ty := mkCx base 9 [(61, annotation_copied_spec), (70, znL)] [] [] [] [] []
def zpy (a : List Term) : Wy0 (List Term × Int) := .bn (zjp a) fun r1 => .i (!r1) (.k ([], 6)) (.bn (zfr a) fun r0 => .k (r0, 0))
def zdv (a : List Term) : Bool × (List Term × Int) := (zpy a).fin default
def zua (r : List Term × Int) : ARes ty := ⟨[.own 42 r.1, .pure (.lit (.int .i64 r.2))], []⟩
def zv1 : AL base (List Term × Unit) := zf (zg (vSl 42)) aNil
def zdU : Ab.Spec ty := zk zv1 fun x => ((zdv x.1).1, zua (zdv x.1).2)
theorem zen : Sound Tryz.prog base 53 zdU :=
 zo (cx' := zE6) zH zm zy (zn ⟨zhq, zsW, trivial⟩) Tryz.call53 Tryz.func53 (c := body Tryz.f53) (by kernel_rfl) (zh (l := []) (by kernel_rfl) trivial) (sg := ⟨[.own 42, .pure], []⟩) (A := zv1) (res := zua) (W := fun x => zpy x.1) (z := default)
def zGH : Cx ty := mkCx base 8 [] [] [] [] [] []
def zqC (x_ : Atom) : Wy0 (List Term) := .k [TermOf.mk 1 [FactorOf.mk (Atom.mk x_.Kind x_.Row x_.Args x_.Func x_.Items x_.Op x_.Bound) 1]]
def zei (x_ : Atom) : Bool × List Term := (zqC x_).fin default
def zvc (r : List Term) : ARes ty := ⟨[.own 42 r], []⟩
def zw8 : AL base (Atom × Unit) := zf (zg (vAgg 48)) aNil
def zfd : Ab.Spec ty := zk zw8 fun x => ((zei x.1).1, zvc (zei x.1).2)
theorem zhd : Sound Tryz.prog base 62 zfd :=
 zo (cx' := zGH) zH zm zy (zn trivial) Tryz.call62 Tryz.func62 (c := body Tryz.f62) (by kernel_rfl) (zh (l := []) (by kernel_rfl) trivial) (sg := ⟨[.own 42], []⟩) (A := zw8) (res := zvc) (W := fun x => zqC x.1) (z := default)
def zGm : Cx ty := mkCx base 23 [(29, zjU), (31, annotation_Valid_spec), (53, zdU), (62, zfd), (68, zkz)] [] [] [] [] []
def zqB (a : List Term) : Wy0 (List Term × Int) := .bn (zca a) fun r2 => .i (!r2) (.k ([], 1)) (.i (Int.ofNat a.length == 0) (.k (zou.2, 0)) (.bn (zd6 a) fun r1 => .i (r1) (.k ([], 0)) (.bn (zdv (zei (Atom.mk 3 (RowID.mk 0 0) [a] 0 [] 0 (Value.mk 0 0 (ByteArray.mk #[])))).2) fun r0 => .k (r0.1, r0.2))))
def zjo (a : List Term) : Bool × (List Term × Int) := (zqB a).fin default
def zvj (r : List Term × Int) : ARes ty := ⟨[.own 42 r.1, .pure (.lit (.int .i64 r.2))], []⟩
def zxn : AL base (List Term × Unit) := zf (zg (vSl 42)) aNil
def znI : Ab.Spec ty := zk zxn fun x => ((zjo x.1).1, zvj (zjo x.1).2)
theorem zsV : Sound Tryz.prog base 22 znI :=
 zo (cx' := zGm) zH zm zy (zn ⟨zlY, zcS, zen, zhd, zoP, trivial⟩) Tryz.call22 Tryz.func22 (c := body Tryz.f22) (by kernel_rfl) (zh (l := []) (by kernel_rfl) trivial) (sg := ⟨[.own 42, .pure], []⟩) (A := zxn) (res := zvj) (W := fun x => zqB x.1) (z := default)
def zwg (k : Go.Value) (l : List (Go.Value × Int)) : Option Int := mget (ty := ty) (V := 3) k l
def zQ0 (k : Go.Value) (l : List (Go.Value × Int)) : Bool := mhas (ty := ty) (V := 3) k l
def zQ8 (k : Go.Value) (x : Int) (l : List (Go.Value × Int)) : List (Go.Value × Int) := mset (ty := ty) (V := 3) k x l
def zwW (r : ByteArray) : ARes ty := ⟨[.pure (.lit (.string r))], []⟩
def zAI : AL base0 (List Term × Unit) := zf (zg (vSl 42)) aNil
def zll (F : List Term → Bool × ByteArray) : Ab.Spec ty := zk zAI fun x => ((F x.1).1, zwW (F x.1).2)
def zqW (r : ByteArray) : ARes ty := ⟨[.pure (.lit (.string r))], []⟩
def zsO : AL base0 (Atom × Unit) := zf (zg (vAgg 48)) aNil
def zjK (F : Atom → Bool × ByteArray) : Ab.Spec ty := zk zsO fun x => ((F x.1).1, zqW (F x.1).2)
def zoA (r : ByteArray) : ARes ty := ⟨[.pure (.lit (.string r))], []⟩
def zqp : AL base0 (List Factor × Unit) := zf (zg (vSl 50)) aNil
def ze5 (F : List Factor → Bool × ByteArray) : Ab.Spec ty := zk zqp fun x => ((F x.1).1, zoA (F x.1).2)
def zDn : Cx ty := mkCx base 2 [] [] [] [] [] []
def ztW : Wy0 (List ByteArray) := .k [ByteArray.mk #[(67 : UInt8), (79 : UInt8), (85 : UInt8), (78 : UInt8), (84 : UInt8)], ByteArray.mk #[(83 : UInt8), (85 : UInt8), (77 : UInt8)], ByteArray.mk #[(77 : UInt8), (73 : UInt8), (78 : UInt8)], ByteArray.mk #[(77 : UInt8), (65 : UInt8), (88 : UInt8)]]
def zbJ : Bool × List ByteArray := (ztW).fin default
def zr8 (r : List ByteArray) : ARes ty := ⟨[.own 9 r], []⟩
def ztH : AL base (Unit) := aNil
def zqO : Ab.Spec ty := zk ztH fun x => ((zbJ ).1, zr8 (zbJ ).2)
theorem zzM : Sound Tryz.prog base 174 zqO :=
 zo (cx' := zDn) zH zm zy (zn trivial) Tryz.call174 Tryz.func174 (c := body Tryz.f174) (by kernel_rfl) (zh (l := []) (by kernel_rfl) trivial) (sg := ⟨[.own 9], []⟩) (A := ztH) (res := zr8) (W := fun x => ztW ) (z := default)
def zDf : Cx ty := mkCx base 2 [] [] [] [] [] []
def ztU : Wy0 (List ByteArray) := .k [ByteArray.mk #[(61 : UInt8)], ByteArray.mk #[(60 : UInt8), (62 : UInt8)], ByteArray.mk #[(60 : UInt8)], ByteArray.mk #[(60 : UInt8), (61 : UInt8)], ByteArray.mk #[(62 : UInt8)], ByteArray.mk #[(62 : UInt8), (61 : UInt8)]]
def zcR : Bool × List ByteArray := (ztU).fin default
def zrX (r : List ByteArray) : ARes ty := ⟨[.own 9 r], []⟩
def zue : AL base (Unit) := aNil
def zqY : Ab.Spec ty := zk zue fun x => ((zcR ).1, zrX (zcR ).2)
theorem zzD : Sound Tryz.prog base 175 zqY :=
 zo (cx' := zDf) zH zm zy (zn trivial) Tryz.call175 Tryz.func175 (c := body Tryz.f175) (by kernel_rfl) (zh (l := []) (by kernel_rfl) trivial) (sg := ⟨[.own 9], []⟩) (A := zue) (res := zrX) (W := fun x => ztU ) (z := default)
def strings_Join (l : List ByteArray) (sep : ByteArray) : Bool × ByteArray := zJt l sep
def strings_Join_spec : Ab.Spec ty := zk (cx := base0) (zf (zg (vSl 9)) (zf (zg vStr) aNil)) fun x => ((strings_Join x.1 x.2.1).1, ⟨[.pure (.lit (.string (strings_Join x.1 x.2.1).2))], []⟩)
theorem zr3 : Sound Tryz.prog base0 152 strings_Join_spec := zQN (T := 9) zib rfl Go.Proofs.Tryz.lays156 Go.Proofs.Tryz.Builder_Extra_156 Tryz.call152 (fun s : ByteArray => s) (fun _ => rfl) strings_Join (fun l sep => congrArg (fun l => zJt l sep) (List.map_id' (α := ByteArray) l).symm)
def strconv_Itoa (x : Int) : Bool × ByteArray := zGh x
def strconv_Itoa_spec : Ab.Spec ty := zk (cx := base) (zf (zg (vInt .i64)) aNil) fun x => ((strconv_Itoa x.1).1, ⟨[.pure (.lit (.string (strconv_Itoa x.1).2))], []⟩)
theorem zzc : Sound Tryz.prog base 154 strconv_Itoa_spec := zRq zm Go.Proofs.Tryz.laysM171 Tryz.call154 (fun _ h => h.1)
def zKy : Cx ty := mkCx base 15 [(69, zom), (154, strconv_Itoa_spec)] [] [] [] [] []
def zvu (id : RowID) : Wy0 (ByteArray) := .bn (zmB id) fun r2 => .i (!r2) (.k (ByteArray.mk #[])) (.bn (strconv_Itoa id.Table) fun r1 => .i (decide ((ByteArray.mk #[(116 : UInt8)]).size + r1.size ≤ 9223372036854775807)) (.i (decide ((ByteArray.mk #[(116 : UInt8)] ++ r1).size + (ByteArray.mk #[(46 : UInt8)]).size ≤ 9223372036854775807)) (.bn (strconv_Itoa id.Seq) fun r0 => .i (decide ((ByteArray.mk #[(116 : UInt8)] ++ r1 ++ ByteArray.mk #[(46 : UInt8)]).size + r0.size ≤ 9223372036854775807)) (.k (ByteArray.mk #[(116 : UInt8)] ++ r1 ++ ByteArray.mk #[(46 : UInt8)] ++ r0)) .d) .d) .d)
def zqk (id : RowID) : Bool × ByteArray := (zvu id).fin default
def zAM (r : ByteArray) : ARes ty := ⟨[.pure (.lit (.string r))], []⟩
def zDV : AL base (RowID × Unit) := zf (zg (vAgg 25)) aNil
def zyu : Ab.Spec ty := zk zDV fun x => ((zqk x.1).1, zAM (zqk x.1).2)
theorem zHO : Sound Tryz.prog base 172 zyu :=
 zo (cx' := zKy) zH zm zy (zn ⟨zry, zzc, trivial⟩) Tryz.call172 Tryz.func172 (c := body Tryz.f172) (by kernel_rfl) (zh (l := []) (by kernel_rfl) trivial) (sg := ⟨[.pure], []⟩) (A := zDV) (res := zAM) (W := fun x => zvu x.1) (z := default)
def zhy (m b : Int) : Bool × ByteArray := zpK m b
def strconv_FormatInt_spec : Ab.Spec ty := zk (cx := base) (zf (zg (vInt .i64)) (zf (zg (vInt .i64)) aNil)) fun x => ((zhy x.1 x.2.1).1, ⟨[.pure (.lit (.string (zhy x.1 x.2.1).2))], []⟩)
theorem zs5 : Sound Tryz.prog base 151 strconv_FormatInt_spec := zLh zm Go.Proofs.Tryz.laysM173 Tryz.call151 (fun _ h => h.1)
def strings_ReplaceAll (s p q : ByteArray) : Bool × ByteArray := zl5 s p q
def strings_ReplaceAll_spec : Ab.Spec ty := zk (cx := base0) (zf (zg vStr) (zf (zg vStr) (zf (zg vStr) aNil))) fun x => ((strings_ReplaceAll x.1 x.2.1 x.2.2.1).1, ⟨[.pure (.lit (.string (strings_ReplaceAll x.1 x.2.1 x.2.2.1).2))], []⟩)
theorem zBI : Sound Tryz.prog base0 203 strings_ReplaceAll_spec := zKI zib rfl Go.Proofs.Tryz.lays155 Go.Proofs.Tryz.Builder_Extra_155 Tryz.call203 (fun _ h => h.2)
def zLu : Cx ty := mkCx base0 27 [(133, zpO), (151, strconv_FormatInt_spec), (203, strings_ReplaceAll_spec)] [] [] [] [] []
def zx0 (v : Value) : Wy0 (ByteArray) := .bn (znN v) fun r2 => .i (!r2) (.k (ByteArray.mk #[])) (.i (v.Kind == 0) (.bn (zhy v.Int 10) fun r0 => .k r0) (.i (v.Kind == 1) (.bn (strings_ReplaceAll v.Text (ByteArray.mk #[(39 : UInt8)]) (ByteArray.mk #[(39 : UInt8), (39 : UInt8)])) fun r1 => .i (decide ((ByteArray.mk #[(39 : UInt8)]).size + r1.size ≤ 9223372036854775807)) (.i (decide ((ByteArray.mk #[(39 : UInt8)] ++ r1).size + (ByteArray.mk #[(39 : UInt8)]).size ≤ 9223372036854775807)) (.k (ByteArray.mk #[(39 : UInt8)] ++ r1 ++ ByteArray.mk #[(39 : UInt8)])) .d) .d) (.i (v.Int == 1) (.k (ByteArray.mk #[(84 : UInt8), (82 : UInt8), (85 : UInt8), (69 : UInt8)])) (.k (ByteArray.mk #[(70 : UInt8), (65 : UInt8), (76 : UInt8), (83 : UInt8), (69 : UInt8)])))))
def zoU (v : Value) : Bool × ByteArray := (zx0 v).fin default
def zBY (r : ByteArray) : ARes ty := ⟨[.pure (.lit (.string r))], []⟩
def zFH : AL base0 (Value × Unit) := zf (zg (vAgg 46)) aNil
def zAS : Ab.Spec ty := zk zFH fun x => ((zoU x.1).1, zBY (zoU x.1).2)
theorem zIr : Sound Tryz.prog base0 173 zAS :=
 zo (cx' := zLu) zH zib zy (zn ⟨zts.nodr, zs5.nodr, zBI, trivial⟩) Tryz.call173 Tryz.func173 (c := body Tryz.f173) (by kernel_rfl) (zh (l := []) (by kernel_rfl) trivial) (sg := ⟨[.pure], []⟩) (A := zFH) (res := zBY) (W := fun x => zx0 x.1) (z := default)
abbrev ttTannotationformatAtom0 := Unit × Unit × List Weighted × Int × Int × Unit
abbrev ttTannotationformatAtom1 := Atom × List ByteArray × Unit
abbrev ttTannotationformatAtom2 := Atom × List ByteArray
def zeF (zba : List Term → Bool × ByteArray) (t48 : List Weighted) (t49 : Int) (t50 : Int) (x_ : Atom) (items : List ByteArray) : Wy ttTannotationformatAtom0 ttTannotationformatAtom1 ttTannotationformatAtom2 := .i (decide (t50 < t49)) (.i (decide (0 ≤ t50) && decide (t50 < Int.ofNat t48.length)) (.bn (zoU (t48.getD t50.toNat default).Value) fun r1 => .i (decide (r1.size + (ByteArray.mk #[(58 : UInt8), (32 : UInt8)]).size ≤ 9223372036854775807)) (.bn (zba (t48.getD t50.toNat default).Ann) fun r0 => .i (decide ((r1 ++ ByteArray.mk #[(58 : UInt8), (32 : UInt8)]).size + r0.size ≤ 9223372036854775807)) (.i (decide ((items.length + [r1 ++ ByteArray.mk #[(58 : UInt8), (32 : UInt8)] ++ r0].length) * 16 ≤ zV)) (.h ((), (), t48, t49, (IntKind.i64.wrap (t50 + 1)), ()) (x_, (items ++ [r1 ++ ByteArray.mk #[(58 : UInt8), (32 : UInt8)] ++ r0]), ())) .d) .d) .d) .d) (.k (x_, items))
def zhJ (zba : List Term → Bool × ByteArray) (x : ttTannotationformatAtom0) (y : ttTannotationformatAtom1) : Wy ttTannotationformatAtom0 ttTannotationformatAtom1 ttTannotationformatAtom2 := zeF zba x.2.2.1 x.2.2.2.1 x.2.2.2.2.1 y.1 y.2.1
def zpl (zba : List Term → Bool × ByteArray) (n : Nat) (t48 : List Weighted) (t49 : Int) (t50 : Int) (x_ : Atom) (items : List ByteArray) : Bool × ttTannotationformatAtom2 := z7 (zhJ zba) default n ((), (), t48, t49, t50, ()) (x_, items, ())
def zot (r : ttTannotationformatAtom2) : LTree ty := .done (.exit 1) [.ptr 360 0, .own 361] [.box (base.enc 48 r.1) false, .arr 9 r.2 false]
def zo9 : LL ty ttTannotationformatAtom0 := za (zg3 360 0) (za (lOwn 361) (za (lSl 52) (za (lInt .i64) (za (lInt .i64) zK))))
def zpo : BL ty ttTannotationformatAtom1 := bBox (ziu (fun x => (⟨x.1, ⟨x.2.1, x.2.2.1⟩, x.2.2.2.1, x.2.2.2.2.1, x.2.2.2.2.2.1, x.2.2.2.2.2.2.1, ⟨x.2.2.2.2.2.2.2.1, x.2.2.2.2.2.2.2.2.1, x.2.2.2.2.2.2.2.2.2.1⟩⟩ : Atom)) (fun x => (x.Kind, x.Row.Table, x.Row.Seq, x.Args, x.Func, x.Items, x.Op, x.Bound.Kind, x.Bound.Int, x.Bound.Text, ())) (fun _ => rfl) (za (lInt .i64) (za (lInt .i64) (za (lInt .i64) (za (lSl 23) (za (lInt .i64) (za (lSl 52) (za (lInt .i64) (za (lInt .i64) (za (lInt .i64) (za lStr zK))))))))))) false (bArr 9 false (bNil))
def zoW (x : ttTannotationformatAtom0) (y : ttTannotationformatAtom1) : Nat := (x.2.2.1.length + Int.toNat x.2.2.2.1 + Int.toNat x.2.2.2.2.1 + y.1.Args.length + y.1.Items.length + y.2.1.length + 1)
def zpX (zba : List Term → Bool × ByteArray) : Cx ty := mkCx base0 90 [(109, (zll zba)), (152, strings_Join_spec), (172, zyu), (173, zAS), (174, zqO), (175, zqY)] [] [(12, [(1, .keep), (3, .own 9), (48, .keep), (49, .keep), (50, .keep)])] [(12, 2, [(1, .keep), (3, .keep)])] [(12, spW zo9 zpo (zhJ zba) default zot zoW)] []
theorem zxD (zba : List Term → Bool × ByteArray) : zY (zpX zba) (lp (body Tryz.f153) 0) := zO (id := 12) (V := zo9) (B := zpo) (W := zhJ zba) (z := default) (tr := zot) (m := zoW)
def zlC (zba : List Term → Bool × ByteArray) (x_ : Atom) : Wy0 (ByteArray) := .i (x_.Kind == 0) (.bn (zqk x_.Row) fun r4 => .k r4) (.i (x_.Kind == 1) (.i (decide ((0 : Int) ≤ (0 : Int)) && decide (0 < Int.ofNat x_.Args.length)) (.bn (zba (x_.Args.getD (Int.toNat 0) default)) fun r6 => .i (decide ((ByteArray.mk #[(109 : UInt8), (111 : UInt8), (110 : UInt8), (117 : UInt8), (115 : UInt8), (91 : UInt8)]).size + r6.size ≤ 9223372036854775807)) (.i (decide ((ByteArray.mk #[(109 : UInt8), (111 : UInt8), (110 : UInt8), (117 : UInt8), (115 : UInt8), (91 : UInt8)] ++ r6).size + (ByteArray.mk #[(44 : UInt8), (32 : UInt8)]).size ≤ 9223372036854775807)) (.i (decide ((0 : Int) ≤ (1 : Int)) && decide (1 < Int.ofNat x_.Args.length)) (.bn (zba (x_.Args.getD (Int.toNat 1) default)) fun r5 => .i (decide ((ByteArray.mk #[(109 : UInt8), (111 : UInt8), (110 : UInt8), (117 : UInt8), (115 : UInt8), (91 : UInt8)] ++ r6 ++ ByteArray.mk #[(44 : UInt8), (32 : UInt8)]).size + r5.size ≤ 9223372036854775807)) (.i (decide ((ByteArray.mk #[(109 : UInt8), (111 : UInt8), (110 : UInt8), (117 : UInt8), (115 : UInt8), (91 : UInt8)] ++ r6 ++ ByteArray.mk #[(44 : UInt8), (32 : UInt8)] ++ r5).size + (ByteArray.mk #[(93 : UInt8)]).size ≤ 9223372036854775807)) (.k (ByteArray.mk #[(109 : UInt8), (111 : UInt8), (110 : UInt8), (117 : UInt8), (115 : UInt8), (91 : UInt8)] ++ r6 ++ ByteArray.mk #[(44 : UInt8), (32 : UInt8)] ++ r5 ++ ByteArray.mk #[(93 : UInt8)])) .d) .d) .d) .d) .d) .d) (.i (x_.Kind == 2) (.i (decide ((0 : Int) ≤ (0 : Int)) && decide (0 < Int.ofNat x_.Args.length)) (.bn (zba (x_.Args.getD (Int.toNat 0) default)) fun r7 => .i (decide ((ByteArray.mk #[(100 : UInt8), (101 : UInt8), (108 : UInt8), (116 : UInt8), (97 : UInt8), (91 : UInt8)]).size + r7.size ≤ 9223372036854775807)) (.i (decide ((ByteArray.mk #[(100 : UInt8), (101 : UInt8), (108 : UInt8), (116 : UInt8), (97 : UInt8), (91 : UInt8)] ++ r7).size + (ByteArray.mk #[(93 : UInt8)]).size ≤ 9223372036854775807)) (.k (ByteArray.mk #[(100 : UInt8), (101 : UInt8), (108 : UInt8), (116 : UInt8), (97 : UInt8), (91 : UInt8)] ++ r7 ++ ByteArray.mk #[(93 : UInt8)])) .d) .d) .d) (.i (x_.Kind == 3) (.i (decide ((0 : Int) ≤ (0 : Int)) && decide (0 < Int.ofNat x_.Args.length)) (.bn (zba (x_.Args.getD (Int.toNat 0) default)) fun r8 => .i (decide ((ByteArray.mk #[(97 : UInt8), (98 : UInt8), (115 : UInt8), (101 : UInt8), (110 : UInt8), (116 : UInt8), (91 : UInt8)]).size + r8.size ≤ 9223372036854775807)) (.i (decide ((ByteArray.mk #[(97 : UInt8), (98 : UInt8), (115 : UInt8), (101 : UInt8), (110 : UInt8), (116 : UInt8), (91 : UInt8)] ++ r8).size + (ByteArray.mk #[(93 : UInt8)]).size ≤ 9223372036854775807)) (.k (ByteArray.mk #[(97 : UInt8), (98 : UInt8), (115 : UInt8), (101 : UInt8), (110 : UInt8), (116 : UInt8), (91 : UInt8)] ++ r8 ++ ByteArray.mk #[(93 : UInt8)])) .d) .d) .d) (.bn (zpl zba (x_.Items.length + (Int.ofNat x_.Items.length).toNat + Int.toNat 0 + x_.Args.length + x_.Items.length + 0 + 1) x_.Items (Int.ofNat x_.Items.length) 0 (Atom.mk x_.Kind x_.Row x_.Args x_.Func x_.Items x_.Op x_.Bound) []) fun r11 => .i (decide (0 ≤ r11.1.Func) && decide (r11.1.Func < Int.ofNat zbJ.2.length)) (.i (decide ((ByteArray.mk #[(116 : UInt8), (101 : UInt8), (115 : UInt8), (116 : UInt8), (91 : UInt8)]).size + ByteArray.size (zbJ.2.getD r11.1.Func.toNat default) ≤ 9223372036854775807)) (.i (decide ((ByteArray.mk #[(116 : UInt8), (101 : UInt8), (115 : UInt8), (116 : UInt8), (91 : UInt8)] ++ zbJ.2.getD r11.1.Func.toNat default).size + (ByteArray.mk #[(123 : UInt8)]).size ≤ 9223372036854775807)) (.bn (strings_Join r11.2 (ByteArray.mk #[(59 : UInt8), (32 : UInt8)])) fun r10 => .i (decide ((ByteArray.mk #[(116 : UInt8), (101 : UInt8), (115 : UInt8), (116 : UInt8), (91 : UInt8)] ++ zbJ.2.getD r11.1.Func.toNat default ++ ByteArray.mk #[(123 : UInt8)]).size + r10.size ≤ 9223372036854775807)) (.i (decide ((ByteArray.mk #[(116 : UInt8), (101 : UInt8), (115 : UInt8), (116 : UInt8), (91 : UInt8)] ++ zbJ.2.getD r11.1.Func.toNat default ++ ByteArray.mk #[(123 : UInt8)] ++ r10).size + (ByteArray.mk #[(125 : UInt8), (32 : UInt8)]).size ≤ 9223372036854775807)) (.i (decide (0 ≤ IntKind.i64.wrap (r11.1.Op - 5)) && decide (IntKind.i64.wrap (r11.1.Op - 5) < Int.ofNat zcR.2.length)) (.i (decide ((ByteArray.mk #[(116 : UInt8), (101 : UInt8), (115 : UInt8), (116 : UInt8), (91 : UInt8)] ++ zbJ.2.getD r11.1.Func.toNat default ++ ByteArray.mk #[(123 : UInt8)] ++ r10 ++ ByteArray.mk #[(125 : UInt8), (32 : UInt8)]).size + ByteArray.size (zcR.2.getD (IntKind.i64.wrap (r11.1.Op - 5)).toNat default) ≤ 9223372036854775807)) (.i (decide ((ByteArray.mk #[(116 : UInt8), (101 : UInt8), (115 : UInt8), (116 : UInt8), (91 : UInt8)] ++ zbJ.2.getD r11.1.Func.toNat default ++ ByteArray.mk #[(123 : UInt8)] ++ r10 ++ ByteArray.mk #[(125 : UInt8), (32 : UInt8)] ++ zcR.2.getD (IntKind.i64.wrap (r11.1.Op - 5)).toNat default).size + (ByteArray.mk #[(32 : UInt8)]).size ≤ 9223372036854775807)) (.bn (zoU r11.1.Bound) fun r9 => .i (decide ((ByteArray.mk #[(116 : UInt8), (101 : UInt8), (115 : UInt8), (116 : UInt8), (91 : UInt8)] ++ zbJ.2.getD r11.1.Func.toNat default ++ ByteArray.mk #[(123 : UInt8)] ++ r10 ++ ByteArray.mk #[(125 : UInt8), (32 : UInt8)] ++ zcR.2.getD (IntKind.i64.wrap (r11.1.Op - 5)).toNat default ++ ByteArray.mk #[(32 : UInt8)]).size + r9.size ≤ 9223372036854775807)) (.i (decide ((ByteArray.mk #[(116 : UInt8), (101 : UInt8), (115 : UInt8), (116 : UInt8), (91 : UInt8)] ++ zbJ.2.getD r11.1.Func.toNat default ++ ByteArray.mk #[(123 : UInt8)] ++ r10 ++ ByteArray.mk #[(125 : UInt8), (32 : UInt8)] ++ zcR.2.getD (IntKind.i64.wrap (r11.1.Op - 5)).toNat default ++ ByteArray.mk #[(32 : UInt8)] ++ r9).size + (ByteArray.mk #[(93 : UInt8)]).size ≤ 9223372036854775807)) (.k (ByteArray.mk #[(116 : UInt8), (101 : UInt8), (115 : UInt8), (116 : UInt8), (91 : UInt8)] ++ zbJ.2.getD r11.1.Func.toNat default ++ ByteArray.mk #[(123 : UInt8)] ++ r10 ++ ByteArray.mk #[(125 : UInt8), (32 : UInt8)] ++ zcR.2.getD (IntKind.i64.wrap (r11.1.Op - 5)).toNat default ++ ByteArray.mk #[(32 : UInt8)] ++ r9 ++ ByteArray.mk #[(93 : UInt8)])) .d) .d) .d) .d) .d) .d) .d) .d) .d) .d))))
def zhv (zba : List Term → Bool × ByteArray) (x_ : Atom) : Bool × ByteArray := (zlC zba x_).fin default
theorem zwP (zba : List Term → Bool × ByteArray) (zHT : Sound Tryz.prog base0 109 (zll zba)) : Sound Tryz.prog base0 153 (zjK (zhv zba)) :=
 zo (cx' := (zpX zba)) zH zib zy (zn ⟨zHT, zr3, zHO.nodr, zIr, zzM.nodr, zzD.nodr, trivial⟩) Tryz.call153 Tryz.func153 (c := body Tryz.f153) (by kernel_rfl) (zh (l := [lp (body Tryz.f153) 0]) (by kernel_rfl) ⟨zxD zba, trivial⟩) (sg := ⟨[.pure], []⟩) (A := zsO) (res := zqW) (W := fun x => zlC zba x.1) (z := default)
abbrev ttTannotationformatFactors0 := Unit × List Factor × Int × Int × Unit
abbrev ttTannotationformatFactors1 := List ByteArray × Unit
def zec (zW : Atom → Bool × ByteArray) (t7 : List Factor) (t8 : Int) (t9 : Int) (out_ : List ByteArray) : Wy ttTannotationformatFactors0 ttTannotationformatFactors1 (List ByteArray) := .i (decide (t9 < t8)) (.i (decide (0 ≤ t9) && decide (t9 < Int.ofNat t7.length)) (.bn (zW (Atom.mk (t7.getD t9.toNat default).Atom.Kind (t7.getD t9.toNat default).Atom.Row (t7.getD t9.toNat default).Atom.Args (t7.getD t9.toNat default).Atom.Func (t7.getD t9.toNat default).Atom.Items (t7.getD t9.toNat default).Atom.Op (t7.getD t9.toNat default).Atom.Bound)) fun r1 => .i ((t7.getD t9.toNat default).Exp != 1) (.bn (strconv_Itoa (t7.getD t9.toNat default).Exp) fun r0 => .i (decide ((ByteArray.mk #[(94 : UInt8)]).size + r0.size ≤ 9223372036854775807)) (.i (decide (r1.size + (ByteArray.mk #[(94 : UInt8)] ++ r0).size ≤ 9223372036854775807)) (.i (decide ((out_.length + [r1 ++ (ByteArray.mk #[(94 : UInt8)] ++ r0)].length) * 16 ≤ zV)) (.h ((), t7, t8, (IntKind.i64.wrap (t9 + 1)), ()) ((out_ ++ [r1 ++ (ByteArray.mk #[(94 : UInt8)] ++ r0)]), ())) .d) .d) .d) (.i (decide ((out_.length + [r1].length) * 16 ≤ zV)) (.h ((), t7, t8, (IntKind.i64.wrap (t9 + 1)), ()) ((out_ ++ [r1]), ())) .d)) .d) (.k out_)
def zgh (zW : Atom → Bool × ByteArray) (x : ttTannotationformatFactors0) (y : ttTannotationformatFactors1) : Wy ttTannotationformatFactors0 ttTannotationformatFactors1 (List ByteArray) := zec zW x.2.1 x.2.2.1 x.2.2.2.1 y.1
def zn2 (zW : Atom → Bool × ByteArray) (n : Nat) (t7 : List Factor) (t8 : Int) (t9 : Int) (out_ : List ByteArray) : Bool × List ByteArray := z7 (zgh zW) default n ((), t7, t8, t9, ()) (out_, ())
def znE (r : List ByteArray) : LTree ty := .done (.exit 0) [.own 128] [.arr 9 r false]
def zn8 : LL ty ttTannotationformatFactors0 := za (lOwn 128) (za (lSl 50) (za (lInt .i64) (za (lInt .i64) zK)))
def zn7 : BL ty ttTannotationformatFactors1 := bArr 9 false (bNil)
def znA (x : ttTannotationformatFactors0) (y : ttTannotationformatFactors1) : Nat := (x.2.1.length + Int.toNat x.2.2.1 + Int.toNat x.2.2.2.1 + y.1.length + 1)
def zn9 (zW : Atom → Bool × ByteArray) : Cx ty := mkCx base0 32 [(152, strings_Join_spec), (153, (zjK zW)), (154, strconv_Itoa_spec)] [] [(3, [(3, .own 9), (7, .keep), (8, .keep), (9, .keep)])] [(3, 1, [(3, .keep)])] [(3, spW zn8 zn7 (zgh zW) default znE znA)] []
theorem zvS (zW : Atom → Bool × ByteArray) : zY (zn9 zW) (lp (body Tryz.f110) 0) := zO (id := 3) (V := zn8) (B := zn7) (W := zgh zW) (z := default) (tr := znE) (m := znA)
def zj1 (zW : Atom → Bool × ByteArray) (l : List Factor) : Wy0 (ByteArray) := .bn (zn2 zW (l.length + (Int.ofNat l.length).toNat + Int.toNat 0 + 0 + 1) l (Int.ofNat l.length) 0 []) fun r5 => .bn (strings_Join r5 (ByteArray.mk #[(42 : UInt8)])) fun r4 => .k r4
def zeW (zW : Atom → Bool × ByteArray) (l : List Factor) : Bool × ByteArray := (zj1 zW l).fin default
theorem zuq (zW : Atom → Bool × ByteArray) (zA6 : Sound Tryz.prog base0 153 (zjK zW)) : Sound Tryz.prog base0 110 (ze5 (zeW zW)) :=
 zo (cx' := (zn9 zW)) zH zib zy (zn ⟨zr3, zA6, zzc.nodr, trivial⟩) Tryz.call110 Tryz.func110 (c := body Tryz.f110) (by kernel_rfl) (zh (l := [lp (body Tryz.f110) 0]) (by kernel_rfl) ⟨zvS zW, trivial⟩) (sg := ⟨[.pure], []⟩) (A := zqp) (res := zoA) (W := fun x => zj1 zW x.1) (z := default)
abbrev ttTannotationtext0 := Unit × List Term × Int × Int × Unit
abbrev ttTannotationtext1 := List ByteArray × Unit
def ziN (zP : List Factor → Bool × ByteArray) (t9 : List Term) (t10 : Int) (t11 : Int) (out_ : List ByteArray) : Wy ttTannotationtext0 ttTannotationtext1 (List ByteArray) := .i (decide (t11 < t10)) (.i (decide (0 ≤ t11) && decide (t11 < Int.ofNat t9.length)) (.i (Int.ofNat (t9.getD t11.toNat default).Factors.length == 0) (.bn (zhy (t9.getD t11.toNat default).Coeff 10) fun r0 => .i (decide ((out_.length + [r0].length) * 16 ≤ zV)) (.h ((), t9, t10, (IntKind.i64.wrap (t11 + 1)), ()) ((out_ ++ [r0]), ())) .d) (.i ((t9.getD t11.toNat default).Coeff == 1) (.bn (zP (t9.getD t11.toNat default).Factors) fun r1 => .i (decide ((out_.length + [r1].length) * 16 ≤ zV)) (.h ((), t9, t10, (IntKind.i64.wrap (t11 + 1)), ()) ((out_ ++ [r1]), ())) .d) (.bn (zhy (t9.getD t11.toNat default).Coeff 10) fun r3 => .i (decide (r3.size + (ByteArray.mk #[(42 : UInt8)]).size ≤ 9223372036854775807)) (.bn (zP (t9.getD t11.toNat default).Factors) fun r2 => .i (decide ((r3 ++ ByteArray.mk #[(42 : UInt8)]).size + r2.size ≤ 9223372036854775807)) (.i (decide ((out_.length + [r3 ++ ByteArray.mk #[(42 : UInt8)] ++ r2].length) * 16 ≤ zV)) (.h ((), t9, t10, (IntKind.i64.wrap (t11 + 1)), ()) ((out_ ++ [r3 ++ ByteArray.mk #[(42 : UInt8)] ++ r2]), ())) .d) .d) .d))) .d) (.k out_)
def zlP (zP : List Factor → Bool × ByteArray) (x : ttTannotationtext0) (y : ttTannotationtext1) : Wy ttTannotationtext0 ttTannotationtext1 (List ByteArray) := ziN zP x.2.1 x.2.2.1 x.2.2.2.1 y.1
def zvM (zP : List Factor → Bool × ByteArray) (n : Nat) (t9 : List Term) (t10 : Int) (t11 : Int) (out_ : List ByteArray) : Bool × List ByteArray := z7 (zlP zP) default n ((), t9, t10, t11, ()) (out_, ())
def zuB (r : List ByteArray) : LTree ty := .done (.exit 0) [.own 200] [.arr 9 r false]
def zv9 : LL ty ttTannotationtext0 := za (lOwn 200) (za (lSl 42) (za (lInt .i64) (za (lInt .i64) zK)))
def zwn : BL ty ttTannotationtext1 := bArr 9 false (bNil)
def zuY (x : ttTannotationtext0) (y : ttTannotationtext1) : Nat := (x.2.1.length + Int.toNat x.2.2.1 + Int.toNat x.2.2.2.1 + y.1.length + 1)
def zvK (zP : List Factor → Bool × ByteArray) : Cx ty := mkCx base0 50 [(110, (ze5 zP)), (151, strconv_FormatInt_spec), (152, strings_Join_spec)] [] [(5, [(3, .own 9), (9, .keep), (10, .keep), (11, .keep)])] [(5, 1, [(3, .keep)])] [(5, spW zv9 zwn (zlP zP) default zuB zuY)] []
theorem zEZ (zP : List Factor → Bool × ByteArray) : zY (zvK zP) (lp (body Tryz.f109) 0) := zO (id := 5) (V := zv9) (B := zwn) (W := zlP zP) (z := default) (tr := zuB) (m := zuY)
def zqE (zP : List Factor → Bool × ByteArray) (a : List Term) : Wy0 (ByteArray) := .i (Int.ofNat a.length == 0) (.k (ByteArray.mk #[(48 : UInt8)])) (.bn (zvM zP (a.length + (Int.ofNat a.length).toNat + Int.toNat 0 + 0 + 1) a (Int.ofNat a.length) 0 []) fun r9 => .bn (strings_Join r9 (ByteArray.mk #[(32 : UInt8), (43 : UInt8), (32 : UInt8)])) fun r8 => .k r8)
def zlp (zP : List Factor → Bool × ByteArray) (a : List Term) : Bool × ByteArray := (zqE zP a).fin default
theorem zDh (zP : List Factor → Bool × ByteArray) (zxO : Sound Tryz.prog base0 110 (ze5 zP)) : Sound Tryz.prog base0 109 (zll (zlp zP)) :=
 zo (cx' := (zvK zP)) zH zib zy (zn ⟨zxO, zs5.nodr, zr3, trivial⟩) Tryz.call109 Tryz.func109 (c := body Tryz.f109) (by kernel_rfl) (zh (l := [lp (body Tryz.f109) 0]) (by kernel_rfl) ⟨zEZ zP, trivial⟩) (sg := ⟨[.pure], []⟩) (A := zAI) (res := zwW) (W := fun x => zqE zP x.1) (z := default)
def zxM : Nat → (List Term → Bool × ByteArray) × (Atom → Bool × ByteArray) × (List Factor → Bool × ByteArray)
 | 0 => (fun _ => (false, default), fun _ => (false, default), fun _ => (false, default))
 | n + 1 => (zlp ((zxM n).2.2), zhv ((zxM n).1), zeW ((zxM n).2.1))
def zlA (n : Nat) : List Term → Bool × ByteArray := (zxM n).1
def zjJ (n : Nat) : Atom → Bool × ByteArray := (zxM n).2.1
def ze0 (n : Nat) : List Factor → Bool × ByteArray := (zxM n).2.2
theorem zFX (n : Nat) : zlA (n + 1) = zlp (ze0 n) := rfl
theorem zz5 (n : Nat) : zjJ (n + 1) = zhv (zlA n) := rfl
theorem zwN (n : Nat) : ze0 (n + 1) = zeW (zjJ n) := rfl
theorem zF4 : ∀ n, Sound Tryz.prog base0 109 (zll (zlA n)) ∧ Sound Tryz.prog base0 153 (zjK (zjJ n)) ∧ Sound Tryz.prog base0 110 (ze5 (ze0 n))
 | 0 => ⟨zbj Tryz.call109 (fun _ => rfl), zbj Tryz.call153 (fun _ => rfl), zbj Tryz.call110 (fun _ => rfl)⟩
 | n + 1 => by
  have ih := zF4 n
  exact ⟨zDh _ (ih.2.2), zwP _ (ih.1), zuq _ (ih.2.1)⟩
def zEd : List Term → Bool × ByteArray := zlA 1000
def annotation_text_spec : Ab.Spec ty := zll zEd
theorem zE3 : Sound Tryz.prog base0 109 annotation_text_spec := (zF4 1000).1
def zmJ : List Factor → Bool × ByteArray := ze0 1000
def annotation_formatFactors_spec : Ab.Spec ty := ze5 zmJ
theorem zwE : Sound Tryz.prog base0 110 annotation_formatFactors_spec := (zF4 1000).2.2
def ziM (x : List Term) (a b lim : Int) : Bool × List Term := zMS zbF x a b lim
def slices_pdqsortCmpFunc_api_Term_spec : Ab.Spec ty := zk (cx := base) (zf (aOwn 42) (zf (zg (vInt .i64)) (zf (zg (vInt .i64)) (zf (zg (vInt .i64)) (zf (zg (vFn 71 vNil)) aNil))))) fun x => ((ziM x.1 x.2.1 x.2.2.1 x.2.2.2.1).1, ⟨[], [some ⟨42, (ziM x.1 x.2.1 x.2.2.1 x.2.2.2.1).2⟩]⟩)
theorem zta (c : Unit) (x y : Term) (h : (zbF x y).1 = true) : annotation_compareLists_spec ((AV.agg (base.enc 42 x) :: AV.agg (base.enc 42 y) :: (vNil : VL base Unit).enc c).map Arg.pure) = some (true, ⟨[.pure (.lit (.int .i64 (zbF x y).2))], []⟩) := by
 rw [← h]; kernel_rfl
theorem zr9 : Sound Tryz.prog base 155 slices_pdqsortCmpFunc_api_Term_spec := by
 letI : DecidableEq (ty 42) := inferInstanceAs (DecidableEq Term)
 exact zQ1 (T := 42) zm rfl Go.Proofs.Tryz.pdqTerm Tryz.isAgg42 (by unfold szOf; exact Tryz.sizeOf42) Tryz.call155 zjD vNil (fun c => zbF) zta
open Go.Proofs Go.RowKit
def zbv (x : List Term) : Bool × List Term := zO5 zbF x
def zd2 : Ab.Spec ty := zk (cx := base) (zf (aOwn 42) (zf (zg (vFn 71 vNil)) aNil)) fun x => ((zbv x.1).1, ⟨[], [some ⟨42, (zbv x.1).2⟩]⟩)
set_option maxHeartbeats 1000000 in
theorem zno : Sound Tryz.prog base 111 zd2 where
 enters := Tryz.call111
 calls := fun avs r hsp w F vs hF ha hsep => by
  unfold zd2 zk at hsp
  split at hsp
  ·rename_i x hx
   simp only [Option.some.injEq, Prod.mk.injEq] at hsp
   obtain ⟨hpre, rfl⟩ := hsp
   have hk := (zf (aOwn 42) (zf (zg (vFn 71 vNil)) aNil) : AL base _).kind vs avs x hx
   have ha' := (zf (aOwn 42) (zf (zg (vFn 71 vNil)) aNil) : AL base _).ok Tryz.prog zm F w vs avs x hx ha
   rw [hk] at hsep ⊢
   clear hk hx ha
   obtain ⟨l0, c, u0⟩ := x
   obtain ⟨l, rfl⟩ : ∃ l : List Term, l = l0 := ⟨l0, rfl⟩
   obtain ⟨v, vs', rfl, hv, hv'⟩ := ha'.inv
   obtain ⟨fv, vs'', rfl, hfv, h0⟩ := hv'.inv
   obtain rfl := h0.nil_left.1
   have hsl : ∃ p cap, v = .slice p l.length cap := by
    obtain ⟨⟨xs, hown, _⟩, _⟩ := (show zcK base F w v 42 l ∧ ∀ b, z8 v = some b → ¬ F b from hv)
    rcases hown.2 with ⟨h1, h2⟩ | ⟨g0, cap, cur, h1, _⟩
    ·exact ⟨none, 0, by rw [h1, show l.length = 0 from h2]⟩
    ·exact ⟨_, cap, h1⟩
   have hok : SortOK (α := Term) zbF l := of_decide_eq_true (p := SortOK (α := Term) zbF l) hpre
   have hlen : l.length < 4611686018427387904 := hok.size
   have hbl : Lib.bitLen l.length < 4611686018427387904 := Nat.lt_of_le_of_lt (Lib.bitLen_le l.length 62 (by omega) (by omega)) (by omega)
   have hpp : (ziM l 0 (l.length : Int) ((Lib.bitLen l.length : Nat) : Int)).1 = true := by
    show (decide (SortOK (α := Term) zbF l) && (decide ((0 : Int) = 0) && (decide ((l.length : Int) = l.length) && (decide ((0 : Int) ≤ ((Lib.bitLen l.length : Nat) : Int)) && decide (((Lib.bitLen l.length : Nat) : Int) < 4611686018427387904))))) = true
    simp only [Bool.and_eq_true, decide_eq_true_eq]
    exact ⟨hok, trivial, trivial, by omega, by omega⟩
   have hp := (zr9).calls [.own 42 l, .pure (.lit (.int .i64 0)), .pure (.lit (.int .i64 (l.length : Int))), .pure (.lit (.int .i64 ((Lib.bitLen l.length : Nat) : Int))), .pure (.fn 71 [])] ⟨[], [some ⟨42, (zbv l).2⟩]⟩
    (by rw [← hpp]; kernel_rfl) w F [v, .int .i64 0, .int .i64 (l.length : Int), .int .i64 ((Lib.bitLen l.length : Nat) : Int), fv] hF (.cons hv (.cons (Rep.lit _) (.cons (Rep.lit _) (.cons (Rep.lit _) (.cons hfv .nil))))) hsep
   replace hp : Calls Tryz.prog 155 #[v, .int .i64 0, .int .i64 (l.length : Int), .int .i64 ((Lib.bitLen l.length : Nat) : Int), fv] w fun e w' => ∃ u, e = .returned u ∧ Post base F w [v] ⟨[], [some ⟨42, (zbv l).2⟩]⟩ u w' := hp
   show Calls Tryz.prog 111 #[v, fv] w fun e w' => ∃ u, e = .returned u ∧ Post base F w [v] ⟨[], [some ⟨42, (zbv l).2⟩]⟩ u w'
   have hb : Calls Tryz.prog 156 #[.int .u64 (l.length : Int)] w fun e w' => e = .returned (.int .i64 ((Lib.bitLen l.length : Nat) : Int)) ∧ w' = w := by
    have h := Any.bits_Len Go.Proofs.Tryz.lays125 (l.length : Int) w (by omega) (by omega)
    rwa [Int.toNat_natCast] at h
   have wr : IntKind.u64.wrap (l.length : Int) = l.length := by simp [IntKind.wrap, IntKind.bits, IntKind.signed]; omega
   generalize (zbv l).2 = res at hp ⊢
   generalize hn : l.length = m at *
   generalize Lib.bitLen m = bl at *
   clear hpp hv hfv hsep hok hpre hF
   obtain ⟨p, cap, rfl⟩ := hsl
   clear hn
   go_enter Tryz.func111, Tryz.ntmps111
   go_wp2_with (first | (go_at_call 156; refine hb.mono ?_; rintro e w' ⟨rfl, rfl⟩) | (go_at_call 155; refine hp.mono ?_; rintro e w' ⟨u, rfl, hpost⟩; obtain rfl := hpost.unit))
   go_end0
   exact ⟨_, rfl, hpost⟩
  ·cases hsp
end Go.Proofs.YtnolcogncjijpaaGreatDoor
namespace Go.Proofs.YtnolcogncjijpaaGreatDoor
open Go Go.Ab
abbrev ttTannotationcollect0 := Unit × Unit × List Term × Int × Int × Unit
abbrev ttTannotationcollect1 := (List (_root_.Go.Value × Int)) × List Term × Unit
def zij (t11 : List Term) (t12 : Int) (t13 : Int) (at_ : List (_root_.Go.Value × Int)) (out_ : List Term) : Wy ttTannotationcollect0 ttTannotationcollect1 (List Term) := .i (decide (t13 < t12)) (.i (decide (0 ≤ t13) && decide (t13 < Int.ofNat t11.length)) (.bn (zmJ (t11.getD t13.toNat default).Factors) fun r0 => .i (zQ0 (Value.string r0) at_) (.i (decide (0 ≤ (zwg (Value.string r0) at_).getD 0) && decide ((zwg (Value.string r0) at_).getD 0 < Int.ofNat out_.length)) (.i (decide (0 ≤ (zwg (Value.string r0) at_).getD 0) && decide ((zwg (Value.string r0) at_).getD 0 < Int.ofNat out_.length)) (.i (decide (Int.toNat ((zwg (Value.string r0) at_).getD 0) < out_.length)) (.h ((), (), t11, t12, (IntKind.i64.wrap (t13 + 1)), ()) (at_, (out_.set (Int.toNat ((zwg (Value.string r0) at_).getD 0)) (TermOf.mk (if 1152921504606846976 < IntKind.i64.wrap ((out_.getD (Int.toNat ((zwg (Value.string r0) at_).getD 0)) default).Coeff + (t11.getD t13.toNat default).Coeff) then 1152921504606846976 else IntKind.i64.wrap ((out_.getD (Int.toNat ((zwg (Value.string r0) at_).getD 0)) default).Coeff + (t11.getD t13.toNat default).Coeff)) (out_.getD (Int.toNat ((zwg (Value.string r0) at_).getD 0)) default).Factors)), ())) .d) .d) .d) (.i (decide ((out_.length + [t11.getD t13.toNat default].length) * 32 ≤ zV)) (.h ((), (), t11, t12, (IntKind.i64.wrap (t13 + 1)), ()) ((zQ8 (Value.string r0) (Int.ofNat out_.length) at_), (out_ ++ [t11.getD t13.toNat default]), ())) .d)) .d) (.k out_)
def zkX (x : ttTannotationcollect0) (y : ttTannotationcollect1) : Wy ttTannotationcollect0 ttTannotationcollect1 (List Term) := zij x.2.2.1 x.2.2.2.1 x.2.2.2.2.1 y.1 y.2.1
def zoJ (n : Nat) (t11 : List Term) (t12 : Int) (t13 : Int) (at_ : List (_root_.Go.Value × Int)) (out_ : List Term) : Bool × List Term := z7 (zkX) default n ((), (), t11, t12, t13, ()) (at_, out_, ())
def ztV (r : List Term) : LTree ty := .done (.exit 0) [.own 208] [.arr 42 r false]
def zu0 : LL ty ttTannotationcollect0 := za (lMp 208) (za (lOwn 209) (za (lSl 42) (za (lInt .i64) (za (lInt .i64) zK))))
def zu8 : BL ty ttTannotationcollect1 := bMp 9 3 false (bArr 42 false (bNil))
def ztC (x : ttTannotationcollect0) (y : ttTannotationcollect1) : Nat := (x.2.2.1.length + Int.toNat x.2.2.2.1 + Int.toNat x.2.2.2.2.1 + y.1.length + y.2.1.length + 1)
def zvg : Cx ty := mkCx base0 52 [(71, annotation_compareLists_spec), (110, annotation_formatFactors_spec), (111, zd2)] [(111, [true, false])] [(4, [(3, .keep), (4, .own 42), (11, .keep), (12, .keep), (13, .keep)])] [(4, 1, [(4, .keep)])] [(4, spW zu0 zu8 (zkX) default ztV ztC)] []
theorem zEH : zY zvg (lp (body Tryz.f54) 0) := zO (id := 4) (V := zu0) (B := zu8) (W := zkX) (z := default) (tr := ztV) (m := ztC)
def zpQ (terms : List Term) : Wy0 (List Term) := .bn (zoJ (terms.length + (Int.ofNat terms.length).toNat + Int.toNat 0 + 0 + 0 + 1) terms (Int.ofNat terms.length) 0 [] []) fun r3 => .bn (zbv r3) fun r2 => .k r2
def zgp (terms : List Term) : Bool × List Term := (zpQ terms).fin default
def ztF (r : List Term) : ARes ty := ⟨[.own 42 r], []⟩
def zwv : AL base0 (List Term × Unit) := zf (zg (vSl 42)) aNil
def zna : Ab.Spec ty := zk zwv fun x => ((zgp x.1).1, ztF (zgp x.1).2)
theorem zrA : Sound Tryz.prog base0 54 zna :=
 zo (cx' := zvg) zH zib zy (zn ⟨zjD.nodr, zwE, zno.nodr, trivial⟩) Tryz.call54 Tryz.func54 (c := body Tryz.f54) (by kernel_rfl) (zh (l := [lp (body Tryz.f54) 0]) (by kernel_rfl) ⟨zEH, trivial⟩) (sg := ⟨[.own 42], []⟩) (A := zwv) (res := ztF) (W := fun x => zpQ x.1) (z := default)
def zqJ : Cx ty := mkCx base 27 [] [] [] [] [] []
def zfW (n_ : Int) : Wy0 (List Term) := .i (decide (n_ < 0)) .d (.i (decide (IntKind.i64.wrap (n_ - IntKind.i64.wrap (0 - 0)) > 0)) (.i (decide (0 < IntKind.i64.wrap (n_ - IntKind.i64.wrap (0 - 0))) && (decide (IntKind.i64.wrap (n_ - IntKind.i64.wrap (0 - 0)) * Int.ofNat 32 ≤ Int.ofNat zV) && (decide (IntKind.i64.wrap (n_ - IntKind.i64.wrap (0 - 0)) ≤ Int.ofNat zV) && !Nat.beq 2 0))) (.k (List.take (Int.toNat 0 - Int.toNat 0) (List.replicate (IntKind.i64.wrap (n_ - IntKind.i64.wrap (0 - 0))).toNat (TermOf.mk 0 [])))) .d) (.k []))
def zc5 (n_ : Int) : Bool × List Term := (zfW n_).fin default
def zjv (r : List Term) : ARes ty := ⟨[.own 42 r], []⟩
def zkd : AL base (Unit × Int × Unit) := zf (zg zTh) (zf (zg (vInt .i64)) aNil)
def ziR : Ab.Spec ty := zk zkd fun x => ((zc5 x.2.1).1, zjv (zc5 x.2.1).2)
theorem zo1 : Sound Tryz.prog base 112 ziR :=
 zo (cx' := zqJ) zH zm zy (zn trivial) Tryz.call112 Tryz.func112 (c := body Tryz.f112) (by kernel_rfl) (zh (l := []) (by kernel_rfl) trivial) (sg := ⟨[.own 42], []⟩) (A := zkd) (res := zjv) (W := fun x => zfW x.2.1) (z := default)
abbrev ttTslicesConcatapiAnnotationapiTerm0 := List (List Term) × Int × List (List Term) × Int × Int × Unit
abbrev ttTslicesConcatapiAnnotationapiTerm1 := List (List Term) × Int
abbrev ttTslicesConcatapiAnnotationapiTerm2 := Unit × List (List Term) × Int × Int × Unit
abbrev ttTslicesConcatapiAnnotationapiTerm3 := List Term × Unit
def zcn (slices : List (List Term)) (size : Int) (t9 : List (List Term)) (t10 : Int) (t11 : Int) : Wy ttTslicesConcatapiAnnotationapiTerm0 (Unit) ttTslicesConcatapiAnnotationapiTerm1 := .i (decide (t11 < t10)) (.i (decide (0 ≤ t11) && decide (t11 < Int.ofNat t9.length)) (.i (decide (IntKind.i64.wrap (size + Int.ofNat (List.length (t9.getD t11.toNat default))) < 0)) .d (.h (slices, (IntKind.i64.wrap (size + Int.ofNat (List.length (t9.getD t11.toNat default)))), t9, t10, (IntKind.i64.wrap (t11 + 1)), ()) ())) .d) (.k (slices, size))
def zdr (x : ttTslicesConcatapiAnnotationapiTerm0) (y : Unit) : Wy ttTslicesConcatapiAnnotationapiTerm0 (Unit) ttTslicesConcatapiAnnotationapiTerm1 := zcn x.1 x.2.1 x.2.2.1 x.2.2.2.1 x.2.2.2.2.1
def ziV (n : Nat) (slices : List (List Term)) (size : Int) (t9 : List (List Term)) (t10 : Int) (t11 : Int) : Bool × ttTslicesConcatapiAnnotationapiTerm1 := z7 (zdr) default n (slices, size, t9, t10, t11, ()) ()
def ziE (r : ttTslicesConcatapiAnnotationapiTerm1) : LTree ty := .done (.exit 0) [.sl 23 r.1, .lit (.int .i64 r.2)] []
def zi7 : LL ty ttTslicesConcatapiAnnotationapiTerm0 := za (lSl 23) (za (lInt .i64) (za (lSl 23) (za (lInt .i64) (za (lInt .i64) zK))))
def zjh : BL ty (Unit) := bNil
def zcm (t25 : List (List Term)) (t26 : Int) (t27 : Int) (newslice : List Term) : Wy ttTslicesConcatapiAnnotationapiTerm2 ttTslicesConcatapiAnnotationapiTerm3 (List Term) := .i (decide (t27 < t26)) (.i (decide (0 ≤ t27) && decide (t27 < Int.ofNat t25.length)) (.i (decide ((newslice.length + List.length (t25.getD t27.toNat default)) * 32 ≤ zV)) (.h ((), t25, t26, (IntKind.i64.wrap (t27 + 1)), ()) ((newslice ++ t25.getD t27.toNat default), ())) .d) .d) (.k newslice)
def zdj (x : ttTslicesConcatapiAnnotationapiTerm2) (y : ttTslicesConcatapiAnnotationapiTerm3) : Wy ttTslicesConcatapiAnnotationapiTerm2 ttTslicesConcatapiAnnotationapiTerm3 (List Term) := zcm x.2.1 x.2.2.1 x.2.2.2.1 y.1
def ziD (n : Nat) (t25 : List (List Term)) (t26 : Int) (t27 : Int) (newslice : List Term) : Bool × List Term := z7 (zdj) default n ((), t25, t26, t27, ()) (newslice, ())
def zif (r : List Term) : LTree ty := .done (.exit 2) [.own 144] [.arr 42 r false]
def ziz : LL ty ttTslicesConcatapiAnnotationapiTerm2 := za (lOwn 144) (za (lSl 23) (za (lInt .i64) (za (lInt .i64) zK)))
def ziF : BL ty ttTslicesConcatapiAnnotationapiTerm3 := bArr 42 false (bNil)
def ziA (x : ttTslicesConcatapiAnnotationapiTerm0) (y : Unit) : Nat := (x.1.length + Int.toNat x.2.1 + x.2.2.1.length + Int.toNat x.2.2.2.1 + Int.toNat x.2.2.2.2.1 + 1)
def zig (x : ttTslicesConcatapiAnnotationapiTerm2) (y : ttTslicesConcatapiAnnotationapiTerm3) : Nat := (x.2.1.length + Int.toNat x.2.2.1 + Int.toNat x.2.2.2.1 + y.1.length + 1)
def zeR : Cx ty := mkCx base 36 [(112, ziR)] [] [(3, [(0, .keep), (3, .keep), (9, .keep), (10, .keep), (11, .keep)]), (11, [(6, .keep), (25, .keep), (26, .keep), (27, .keep)])] [(3, 1, [(0, .keep), (3, .keep)]), (11, 3, [(6, .keep)])] [(3, spW zi7 zjh (zdr) default ziE ziA), (11, spW ziz ziF (zdj) default zif zig)] [112]
theorem zo2 : zY zeR (lp (body Tryz.f55) 0) := zO (id := 3) (V := zi7) (B := zjh) (W := zdr) (z := default) (tr := ziE) (m := ziA)
theorem zoB : zY zeR (lp (body Tryz.f55) 1) := zO (id := 11) (V := ziz) (B := ziF) (W := zdj) (z := default) (tr := zif) (m := zig)
def ze8 (slices : List (List Term)) : Wy0 (List Term) := .bn (ziV (slices.length + Int.toNat 0 + slices.length + (Int.ofNat slices.length).toNat + Int.toNat 0 + 1) slices 0 slices (Int.ofNat slices.length) 0) fun r2 => .bn (zc5 r2.2) fun r1 => .bn (ziD (r2.1.length + (Int.ofNat r2.1.length).toNat + Int.toNat 0 + r1.length + 1) r2.1 (Int.ofNat r2.1.length) 0 r1) fun r0 => .k r0
def zcO (slices : List (List Term)) : Bool × List Term := (ze8 slices).fin default
def ziG (r : List Term) : ARes ty := ⟨[.own 42 r], []⟩
def zjs : AL base (List (List Term) × Unit) := zf (zg (vSl 23)) aNil
def zio : Ab.Spec ty := zk zjs fun x => ((zcO x.1).1, ziG (zcO x.1).2)
theorem zob : Sound Tryz.prog base 55 zio :=
 zo (cx' := zeR) zH zm zy (zn ⟨zo1, trivial⟩) Tryz.call55 Tryz.func55 (c := body Tryz.f55) (by kernel_rfl) (zh (l := [lp (body Tryz.f55) 0, lp (body Tryz.f55) 1]) (by kernel_rfl) ⟨zo2, zoB, trivial⟩) (sg := ⟨[.own 42], []⟩) (A := zjs) (res := ziG) (W := fun x => ze8 x.1) (z := default)
def zJH : Cx ty := mkCx base0 22 [(31, annotation_Valid_spec), (53, zdU), (54, zna), (55, zio)] [] [] [] [] []
def zuo (a : List Term) (b : List Term) : Wy0 (List Term × Int) := .bn (zca a) fun r4 => .i (!r4) (.k ([], 1)) (.bn (zca b) fun r3 => .i (!r3) (.k ([], 1)) (.bn (zcO [a, b]) fun r2 => .bn (zgp r2) fun r1 => .bn (zdv r1) fun r0 => .k (r0.1, r0.2)))
def zmk (a : List Term) (b : List Term) : Bool × (List Term × Int) := (zuo a b).fin default
def zyt (r : List Term × Int) : ARes ty := ⟨[.own 42 r.1, .pure (.lit (.int .i64 r.2))], []⟩
def zCe : AL base0 (List Term × List Term × Unit) := zf (zg (vSl 42)) (zf (zg (vSl 42)) aNil)
def zmM : Ab.Spec ty := zk zCe fun x => ((zmk x.1 x.2.1).1, zyt (zmk x.1 x.2.1).2)
theorem zpr : Sound Tryz.prog base0 13 zmM :=
 zo (cx' := zJH) zH zib zy (zn ⟨zcS.nodr, zen.nodr, zrA, zob.nodr, trivial⟩) Tryz.call13 Tryz.func13 (c := body Tryz.f13) (by kernel_rfl) (zh (l := []) (by kernel_rfl) trivial) (sg := ⟨[.own 42, .pure], []⟩) (A := zCe) (res := zyt) (W := fun x => zuo x.1 x.2.1) (z := default)
def zHP : Cx ty := mkCx base 9 [] [] [] [] [] []
def zrZ (n_ : Int) : Wy0 (List Term) := .i (decide (n_ < 1)) (.k []) (.k [TermOf.mk (if 1152921504606846976 < n_ then 1152921504606846976 else n_) []])
def zj9 (n_ : Int) : Bool × List Term := (zrZ n_).fin default
def zwd (r : List Term) : ARes ty := ⟨[.own 42 r], []⟩
def zyi : AL base (Int × Unit) := zf (zg (vInt .i64)) aNil
def zkW : Ab.Spec ty := zk zyi fun x => ((zj9 x.1).1, zwd (zj9 x.1).2)
theorem znZ : Sound Tryz.prog base 25 zkW :=
 zo (cx' := zHP) zH zm zy (zn trivial) Tryz.call25 Tryz.func25 (c := body Tryz.f25) (by kernel_rfl) (zh (l := []) (by kernel_rfl) trivial) (sg := ⟨[.own 42], []⟩) (A := zyi) (res := zwd) (W := fun x => zrZ x.1) (z := default)
def zHA : Cx ty := mkCx base 29 [(29, zjU), (31, annotation_Valid_spec), (53, zdU), (61, annotation_copied_spec), (62, zfd), (64, znU), (65, zli)] [] [] [] [] []
def zrW (a : List Term) : Wy0 (List Term × Int) := .bn (zca a) fun r5 => .i (!r5) (.k ([], 1)) (.i (Int.ofNat a.length == 0) (.bn (zfr a) fun r0 => .k (r0, 0)) (.bn (zjn a) fun r4 => .i (r4) (.bn (zfr a) fun r1 => .k (r1, 0)) (.bn (zf5 a) fun r3 => .i (r3) (.k (zou.2, 0)) (.bn (zdv (zei (Atom.mk 2 (RowID.mk 0 0) [a] 0 [] 0 (Value.mk 0 0 (ByteArray.mk #[])))).2) fun r2 => .k (r2.1, r2.2)))))
def zj5 (a : List Term) : Bool × (List Term × Int) := (zrW a).fin default
def zwm (r : List Term × Int) : ARes ty := ⟨[.own 42 r.1, .pure (.lit (.int .i64 r.2))], []⟩
def zzk : AL base (List Term × Unit) := zf (zg (vSl 42)) aNil
def zkT : Ab.Spec ty := zk zzk fun x => ((zj5 x.1).1, zwm (zj5 x.1).2)
theorem znQ : Sound Tryz.prog base 20 zkT :=
 zo (cx' := zHA) zH zm zy (zn ⟨zlY, zcS, zen, zhq, zhd, zsJ, zpm, trivial⟩) Tryz.call20 Tryz.func20 (c := body Tryz.f20) (by kernel_rfl) (zh (l := []) (by kernel_rfl) trivial) (sg := ⟨[.own 42, .pure], []⟩) (A := zzk) (res := zwm) (W := fun x => zrW x.1) (z := default)
def zHI : Cx ty := mkCx base 38 [(31, annotation_Valid_spec), (32, zow), (53, zdU), (61, annotation_copied_spec), (62, zfd)] [] [] [] [] []
def zrH (a : List Term) (b : List Term) : Wy0 (List Term × Int) := .bn (zca a) fun r4 => .i (!r4) (.k ([], 1)) (.bn (zca b) fun r3 => .i (!r3) (.k ([], 1)) (.i (Int.ofNat b.length == 0) (.bn (zfr a) fun r0 => .k (r0, 0)) (.i (Int.ofNat a.length == 0) (.k ([], 0)) (.bn (zic a b) fun r2 => .i (r2) (.k ([], 0)) (.bn (zdv (zei (Atom.mk 1 (RowID.mk 0 0) [a, b] 0 [] 0 (Value.mk 0 0 (ByteArray.mk #[])))).2) fun r1 => .k (r1.1, r1.2))))))
def zj6 (a : List Term) (b : List Term) : Bool × (List Term × Int) := (zrH a b).fin default
def zwe (r : List Term × Int) : ARes ty := ⟨[.own 42 r.1, .pure (.lit (.int .i64 r.2))], []⟩
def zyH : AL base (List Term × List Term × Unit) := zf (zg (vSl 42)) (zf (zg (vSl 42)) aNil)
def zk3 : Ab.Spec ty := zk zyH fun x => ((zj6 x.1 x.2.1).1, zwe (zj6 x.1 x.2.1).2)
theorem znO : Sound Tryz.prog base 18 zk3 :=
 zo (cx' := zHI) zH zm zy (zn ⟨zcS, ztK, zen, zhq, zhd, trivial⟩) Tryz.call18 Tryz.func18 (c := body Tryz.f18) (by kernel_rfl) (zh (l := []) (by kernel_rfl) trivial) (sg := ⟨[.own 42, .pure], []⟩) (A := zyH) (res := zwe) (W := fun x => zrH x.1 x.2.1) (z := default)
def zri : Cx ty := mkCx base 27 [] [] [] [] [] []
def zgJ (n_ : Int) : Wy0 (List Factor) := .i (decide (n_ < 0)) .d (.i (decide (IntKind.i64.wrap (n_ - IntKind.i64.wrap (0 - 0)) > 0)) (.i (decide (0 < IntKind.i64.wrap (n_ - IntKind.i64.wrap (0 - 0))) && (decide (IntKind.i64.wrap (n_ - IntKind.i64.wrap (0 - 0)) * Int.ofNat 128 ≤ Int.ofNat zV) && (decide (IntKind.i64.wrap (n_ - IntKind.i64.wrap (0 - 0)) ≤ Int.ofNat zV) && !Nat.beq 11 0))) (.k (List.take (Int.toNat 0 - Int.toNat 0) (List.replicate (IntKind.i64.wrap (n_ - IntKind.i64.wrap (0 - 0))).toNat (FactorOf.mk (Atom.mk 0 (RowID.mk 0 0) [] 0 [] 0 (Value.mk 0 0 (ByteArray.mk #[]))) 0)))) .d) (.k []))
def zdm (n_ : Int) : Bool × List Factor := (zgJ n_).fin default
def zjS (r : List Factor) : ARes ty := ⟨[.own 50 r], []⟩
def zkG : AL base (Unit × Int × Unit) := zf (zg zTh) (zf (zg (vInt .i64)) aNil)
def zjw : Ab.Spec ty := zk zkG fun x => ((zdm x.2.1).1, zjS (zdm x.2.1).2)
theorem zpC : Sound Tryz.prog base 158 zjw :=
 zo (cx' := zri) zH zm zy (zn trivial) Tryz.call158 Tryz.func158 (c := body Tryz.f158) (by kernel_rfl) (zh (l := []) (by kernel_rfl) trivial) (sg := ⟨[.own 50], []⟩) (A := zkG) (res := zjS) (W := fun x => zgJ x.2.1) (z := default)
abbrev ttTslicesConcatLapiFactorapiFactor0 := List (List Factor) × Int × List (List Factor) × Int × Int × Unit
abbrev ttTslicesConcatLapiFactorapiFactor1 := List (List Factor) × Int
abbrev ttTslicesConcatLapiFactorapiFactor2 := Unit × List (List Factor) × Int × Int × Unit
abbrev ttTslicesConcatLapiFactorapiFactor3 := List Factor × Unit
def zcw (slices : List (List Factor)) (size : Int) (t9 : List (List Factor)) (t10 : Int) (t11 : Int) : Wy ttTslicesConcatLapiFactorapiFactor0 (Unit) ttTslicesConcatLapiFactorapiFactor1 := .i (decide (t11 < t10)) (.i (decide (0 ≤ t11) && decide (t11 < Int.ofNat t9.length)) (.i (decide (IntKind.i64.wrap (size + Int.ofNat (List.length (t9.getD t11.toNat default))) < 0)) .d (.h (slices, (IntKind.i64.wrap (size + Int.ofNat (List.length (t9.getD t11.toNat default)))), t9, t10, (IntKind.i64.wrap (t11 + 1)), ()) ())) .d) (.k (slices, size))
def zdD (x : ttTslicesConcatLapiFactorapiFactor0) (y : Unit) : Wy ttTslicesConcatLapiFactorapiFactor0 (Unit) ttTslicesConcatLapiFactorapiFactor1 := zcw x.1 x.2.1 x.2.2.1 x.2.2.2.1 x.2.2.2.2.1
def zjt (n : Nat) (slices : List (List Factor)) (size : Int) (t9 : List (List Factor)) (t10 : Int) (t11 : Int) : Bool × ttTslicesConcatLapiFactorapiFactor1 := z7 (zdD) default n (slices, size, t9, t10, t11, ()) ()
def zi2 (r : ttTslicesConcatLapiFactorapiFactor1) : LTree ty := .done (.exit 0) [.sl 40 r.1, .lit (.int .i64 r.2)] []
def zjr : LL ty ttTslicesConcatLapiFactorapiFactor0 := za (lSl 40) (za (lInt .i64) (za (lSl 40) (za (lInt .i64) (za (lInt .i64) zK))))
def zjq : BL ty (Unit) := bNil
def zcs (t25 : List (List Factor)) (t26 : Int) (t27 : Int) (newslice : List Factor) : Wy ttTslicesConcatLapiFactorapiFactor2 ttTslicesConcatLapiFactorapiFactor3 (List Factor) := .i (decide (t27 < t26)) (.i (decide (0 ≤ t27) && decide (t27 < Int.ofNat t25.length)) (.i (decide ((newslice.length + List.length (t25.getD t27.toNat default)) * 128 ≤ zV)) (.h ((), t25, t26, (IntKind.i64.wrap (t27 + 1)), ()) ((newslice ++ t25.getD t27.toNat default), ())) .d) .d) (.k newslice)
def zds (x : ttTslicesConcatLapiFactorapiFactor2) (y : ttTslicesConcatLapiFactorapiFactor3) : Wy ttTslicesConcatLapiFactorapiFactor2 ttTslicesConcatLapiFactorapiFactor3 (List Factor) := zcs x.2.1 x.2.2.1 x.2.2.2.1 y.1
def ziZ (n : Nat) (t25 : List (List Factor)) (t26 : Int) (t27 : Int) (newslice : List Factor) : Bool × List Factor := z7 (zds) default n ((), t25, t26, t27, ()) (newslice, ())
def ziB (r : List Factor) : LTree ty := .done (.exit 2) [.own 144] [.arr 50 r false]
def ziK : LL ty ttTslicesConcatLapiFactorapiFactor2 := za (lOwn 144) (za (lSl 40) (za (lInt .i64) (za (lInt .i64) zK)))
def ziX : BL ty ttTslicesConcatLapiFactorapiFactor3 := bArr 50 false (bNil)
def ziW (x : ttTslicesConcatLapiFactorapiFactor0) (y : Unit) : Nat := (x.1.length + Int.toNat x.2.1 + x.2.2.1.length + Int.toNat x.2.2.2.1 + Int.toNat x.2.2.2.2.1 + 1)
def ziH (x : ttTslicesConcatLapiFactorapiFactor2) (y : ttTslicesConcatLapiFactorapiFactor3) : Nat := (x.2.1.length + Int.toNat x.2.2.1 + Int.toNat x.2.2.2.1 + y.1.length + 1)
def ze1 : Cx ty := mkCx base 36 [(158, zjw)] [] [(3, [(0, .keep), (3, .keep), (9, .keep), (10, .keep), (11, .keep)]), (11, [(6, .keep), (25, .keep), (26, .keep), (27, .keep)])] [(3, 1, [(0, .keep), (3, .keep)]), (11, 3, [(6, .keep)])] [(3, spW zjr zjq (zdD) default zi2 ziW), (11, spW ziK ziX (zds) default ziB ziH)] [158]
theorem zpq : zY ze1 (lp (body Tryz.f114) 0) := zO (id := 3) (V := zjr) (B := zjq) (W := zdD) (z := default) (tr := zi2) (m := ziW)
theorem zo0 : zY ze1 (lp (body Tryz.f114) 1) := zO (id := 11) (V := ziK) (B := ziX) (W := zds) (z := default) (tr := ziB) (m := ziH)
def zfy (slices : List (List Factor)) : Wy0 (List Factor) := .bn (zjt (slices.length + Int.toNat 0 + slices.length + (Int.ofNat slices.length).toNat + Int.toNat 0 + 1) slices 0 slices (Int.ofNat slices.length) 0) fun r2 => .bn (zdm r2.2) fun r1 => .bn (ziZ (r2.1.length + (Int.ofNat r2.1.length).toNat + Int.toNat 0 + r1.length + 1) r2.1 (Int.ofNat r2.1.length) 0 r1) fun r0 => .k r0
def zcU (slices : List (List Factor)) : Bool × List Factor := (zfy slices).fin default
def ziY (r : List Factor) : ARes ty := ⟨[.own 50 r], []⟩
def zjN : AL base (List (List Factor) × Unit) := zf (zg (vSl 40)) aNil
def ziC : Ab.Spec ty := zk zjN fun x => ((zcU x.1).1, ziY (zcU x.1).2)
theorem zoF : Sound Tryz.prog base 114 ziC :=
 zo (cx' := ze1) zH zm zy (zn ⟨zpC, trivial⟩) Tryz.call114 Tryz.func114 (c := body Tryz.f114) (by kernel_rfl) (zh (l := [lp (body Tryz.f114) 0, lp (body Tryz.f114) 1]) (by kernel_rfl) ⟨zpq, zo0, trivial⟩) (sg := ⟨[.own 50], []⟩) (A := zjN) (res := ziY) (W := fun x => zfy x.1) (z := default)
abbrev ttTannotationjoin0 := List Factor × List Factor × Unit × Unit
abbrev ttTannotationjoin1 := List Factor × Unit
abbrev ttTannotationjoin2 := List Factor × List Factor × List Factor
def zsd (a : List Factor) (b : List Factor) (out_ : List Factor) : Wy ttTannotationjoin0 ttTannotationjoin1 ttTannotationjoin2 := .i (decide (Int.ofNat a.length > 0)) (.i (decide (Int.ofNat b.length > 0)) (.i (decide ((0 : Int) ≤ (0 : Int)) && decide (0 < Int.ofNat a.length)) (.i (decide ((0 : Int) ≤ (0 : Int)) && decide (0 < Int.ofNat b.length)) (.bn (zhp (Atom.mk (a.getD (Int.toNat 0) default).Atom.Kind (a.getD (Int.toNat 0) default).Atom.Row (a.getD (Int.toNat 0) default).Atom.Args (a.getD (Int.toNat 0) default).Atom.Func (a.getD (Int.toNat 0) default).Atom.Items (a.getD (Int.toNat 0) default).Atom.Op (a.getD (Int.toNat 0) default).Atom.Bound) (Atom.mk (b.getD (Int.toNat 0) default).Atom.Kind (b.getD (Int.toNat 0) default).Atom.Row (b.getD (Int.toNat 0) default).Atom.Args (b.getD (Int.toNat 0) default).Atom.Func (b.getD (Int.toNat 0) default).Atom.Items (b.getD (Int.toNat 0) default).Atom.Op (b.getD (Int.toNat 0) default).Atom.Bound)) fun r1 => .i (decide (r1 < 0)) (.i (decide ((0 : Int) ≤ (0 : Int)) && decide (0 < Int.ofNat a.length)) (.i (decide ((out_.length + [FactorOf.mk (Atom.mk (a.getD (Int.toNat 0) default).Atom.Kind (a.getD (Int.toNat 0) default).Atom.Row (a.getD (Int.toNat 0) default).Atom.Args (a.getD (Int.toNat 0) default).Atom.Func (a.getD (Int.toNat 0) default).Atom.Items (a.getD (Int.toNat 0) default).Atom.Op (a.getD (Int.toNat 0) default).Atom.Bound) (a.getD (Int.toNat 0) default).Exp].length) * 128 ≤ zV)) (.i (decide ((0 : Int) ≤ (1 : Int)) && decide (1 ≤ Int.ofNat a.length) && decide (Int.ofNat a.length ≤ Int.ofNat a.length)) (.h ((List.take ((Int.ofNat a.length).toNat - Int.toNat 1) (List.drop (Int.toNat 1) a)), b, (), ()) ((out_ ++ [FactorOf.mk (Atom.mk (a.getD (Int.toNat 0) default).Atom.Kind (a.getD (Int.toNat 0) default).Atom.Row (a.getD (Int.toNat 0) default).Atom.Args (a.getD (Int.toNat 0) default).Atom.Func (a.getD (Int.toNat 0) default).Atom.Items (a.getD (Int.toNat 0) default).Atom.Op (a.getD (Int.toNat 0) default).Atom.Bound) (a.getD (Int.toNat 0) default).Exp]), ())) .d) .d) .d) (.i (decide (r1 > 0)) (.i (decide ((0 : Int) ≤ (0 : Int)) && decide (0 < Int.ofNat b.length)) (.i (decide ((out_.length + [FactorOf.mk (Atom.mk (b.getD (Int.toNat 0) default).Atom.Kind (b.getD (Int.toNat 0) default).Atom.Row (b.getD (Int.toNat 0) default).Atom.Args (b.getD (Int.toNat 0) default).Atom.Func (b.getD (Int.toNat 0) default).Atom.Items (b.getD (Int.toNat 0) default).Atom.Op (b.getD (Int.toNat 0) default).Atom.Bound) (b.getD (Int.toNat 0) default).Exp].length) * 128 ≤ zV)) (.i (decide ((0 : Int) ≤ (1 : Int)) && decide (1 ≤ Int.ofNat b.length) && decide (Int.ofNat b.length ≤ Int.ofNat b.length)) (.h (a, (List.take ((Int.ofNat b.length).toNat - Int.toNat 1) (List.drop (Int.toNat 1) b)), (), ()) ((out_ ++ [FactorOf.mk (Atom.mk (b.getD (Int.toNat 0) default).Atom.Kind (b.getD (Int.toNat 0) default).Atom.Row (b.getD (Int.toNat 0) default).Atom.Args (b.getD (Int.toNat 0) default).Atom.Func (b.getD (Int.toNat 0) default).Atom.Items (b.getD (Int.toNat 0) default).Atom.Op (b.getD (Int.toNat 0) default).Atom.Bound) (b.getD (Int.toNat 0) default).Exp]), ())) .d) .d) .d) (.i (decide ((0 : Int) ≤ (0 : Int)) && decide (0 < Int.ofNat a.length)) (.bn (zep (Atom.mk (a.getD (Int.toNat 0) default).Atom.Kind (a.getD (Int.toNat 0) default).Atom.Row (a.getD (Int.toNat 0) default).Atom.Args (a.getD (Int.toNat 0) default).Atom.Func (a.getD (Int.toNat 0) default).Atom.Items (a.getD (Int.toNat 0) default).Atom.Op (a.getD (Int.toNat 0) default).Atom.Bound)) fun r0 => .i (!r0) (.i (decide ((0 : Int) ≤ (0 : Int)) && decide (0 < Int.ofNat b.length)) (.i (decide ((out_.length + [FactorOf.mk (Atom.mk (a.getD (Int.toNat 0) default).Atom.Kind (a.getD (Int.toNat 0) default).Atom.Row (a.getD (Int.toNat 0) default).Atom.Args (a.getD (Int.toNat 0) default).Atom.Func (a.getD (Int.toNat 0) default).Atom.Items (a.getD (Int.toNat 0) default).Atom.Op (a.getD (Int.toNat 0) default).Atom.Bound) (IntKind.i64.wrap ((a.getD (Int.toNat 0) default).Exp + (b.getD (Int.toNat 0) default).Exp))].length) * 128 ≤ zV)) (.i (decide ((0 : Int) ≤ (1 : Int)) && decide (1 ≤ Int.ofNat a.length) && decide (Int.ofNat a.length ≤ Int.ofNat a.length)) (.i (decide ((0 : Int) ≤ (1 : Int)) && decide (1 ≤ Int.ofNat b.length) && decide (Int.ofNat b.length ≤ Int.ofNat b.length)) (.h ((List.take ((Int.ofNat a.length).toNat - Int.toNat 1) (List.drop (Int.toNat 1) a)), (List.take ((Int.ofNat b.length).toNat - Int.toNat 1) (List.drop (Int.toNat 1) b)), (), ()) ((out_ ++ [FactorOf.mk (Atom.mk (a.getD (Int.toNat 0) default).Atom.Kind (a.getD (Int.toNat 0) default).Atom.Row (a.getD (Int.toNat 0) default).Atom.Args (a.getD (Int.toNat 0) default).Atom.Func (a.getD (Int.toNat 0) default).Atom.Items (a.getD (Int.toNat 0) default).Atom.Op (a.getD (Int.toNat 0) default).Atom.Bound) (IntKind.i64.wrap ((a.getD (Int.toNat 0) default).Exp + (b.getD (Int.toNat 0) default).Exp))]), ())) .d) .d) .d) .d) (.i (decide ((out_.length + [FactorOf.mk (Atom.mk (a.getD (Int.toNat 0) default).Atom.Kind (a.getD (Int.toNat 0) default).Atom.Row (a.getD (Int.toNat 0) default).Atom.Args (a.getD (Int.toNat 0) default).Atom.Func (a.getD (Int.toNat 0) default).Atom.Items (a.getD (Int.toNat 0) default).Atom.Op (a.getD (Int.toNat 0) default).Atom.Bound) (a.getD (Int.toNat 0) default).Exp].length) * 128 ≤ zV)) (.i (decide ((0 : Int) ≤ (1 : Int)) && decide (1 ≤ Int.ofNat a.length) && decide (Int.ofNat a.length ≤ Int.ofNat a.length)) (.i (decide ((0 : Int) ≤ (1 : Int)) && decide (1 ≤ Int.ofNat b.length) && decide (Int.ofNat b.length ≤ Int.ofNat b.length)) (.h ((List.take ((Int.ofNat a.length).toNat - Int.toNat 1) (List.drop (Int.toNat 1) a)), (List.take ((Int.ofNat b.length).toNat - Int.toNat 1) (List.drop (Int.toNat 1) b)), (), ()) ((out_ ++ [FactorOf.mk (Atom.mk (a.getD (Int.toNat 0) default).Atom.Kind (a.getD (Int.toNat 0) default).Atom.Row (a.getD (Int.toNat 0) default).Atom.Args (a.getD (Int.toNat 0) default).Atom.Func (a.getD (Int.toNat 0) default).Atom.Items (a.getD (Int.toNat 0) default).Atom.Op (a.getD (Int.toNat 0) default).Atom.Bound) (a.getD (Int.toNat 0) default).Exp]), ())) .d) .d) .d)) .d))) .d) .d) (.k (a, b, out_))) (.k (a, b, out_))
def zrL (x : ttTannotationjoin0) (y : ttTannotationjoin1) : Wy ttTannotationjoin0 ttTannotationjoin1 ttTannotationjoin2 := zsd x.1 x.2.1 y.1
def zr0 (n : Nat) (a : List Factor) (b : List Factor) (out_ : List Factor) : Bool × ttTannotationjoin2 := z7 (zrL) default n (a, b, (), ()) (out_, ())
def zxd (r : ttTannotationjoin2) : LTree ty := .done (.exit 0) [.sl 50 r.1, .sl 50 r.2.1, .own 300] [.arr 50 r.2.2 false]
def zyL : LL ty ttTannotationjoin0 := za (lSl 50) (za (lSl 50) (za (lOwn 300) zK))
def zys : BL ty ttTannotationjoin1 := bArr 50 false (bNil)
def zwX (x : ttTannotationjoin0) (y : ttTannotationjoin1) : Nat := (x.1.length + x.2.1.length + y.1.length + 1)
def zzn : Cx ty := mkCx base 75 [(72, zh4), (73, annotation_compareAtoms_spec), (114, ziC)] [] [(2, [(0, .keep), (1, .keep), (5, .own 50)])] [(2, 1, [(0, .keep), (1, .keep), (5, .keep)])] [(2, spW zyL zys (zrL) default zxd zwX)] []
theorem zHC : zY zzn (lp (body Tryz.f59) 0) := zO (id := 2) (V := zyL) (B := zys) (W := zrL) (z := default) (tr := zxd) (m := zwX)
def zth (a : List Factor) (b : List Factor) : Wy0 (List Factor) := .bn (zr0 (a.length + b.length + 0 + 1) a b []) fun r5 => .bn (zcU [r5.2.2, r5.1, r5.2.1]) fun r4 => .k r4
def zk4 (a : List Factor) (b : List Factor) : Bool × List Factor := (zth a b).fin default
def zw7 (r : List Factor) : ARes ty := ⟨[.own 50 r], []⟩
def zAh : AL base (List Factor × List Factor × Unit) := zf (zg (vSl 50)) (zf (zg (vSl 50)) aNil)
def zvt : Ab.Spec ty := zk zAh fun x => ((zk4 x.1 x.2.1).1, zw7 (zk4 x.1 x.2.1).2)
theorem zFf : Sound Tryz.prog base 59 zvt :=
 zo (cx' := zzn) zH zm zy (zn ⟨zku, zn3, zoF, trivial⟩) Tryz.call59 Tryz.func59 (c := body Tryz.f59) (by kernel_rfl) (zh (l := [lp (body Tryz.f59) 0]) (by kernel_rfl) ⟨zHC, trivial⟩) (sg := ⟨[.own 50], []⟩) (A := zAh) (res := zw7) (W := fun x => zth x.1 x.2.1) (z := default)
def zHR : Cx ty := mkCx base 12 [] [] [] [] [] []
def zrY (a : Int) (b : Int) : Wy0 (Int) := .i (!decide (b = 0)) (.i (decide (a > IntKind.i64.wrap (Int.tdiv 1152921504606846976 b))) (.k 1152921504606846976) (.k (IntKind.i64.wrap (a * b)))) .d
def zmH (a : Int) (b : Int) : Bool × Int := (zrY a b).fin default
def zwz (r : Int) : ARes ty := ⟨[.pure (.lit (.int .i64 r))], []⟩
def zyE : AL base (Int × Int × Unit) := zf (zg (vInt .i64)) (zf (zg (vInt .i64)) aNil)
def zuG : Ab.Spec ty := zk zyE fun x => ((zmH x.1 x.2.1).1, zwz (zmH x.1 x.2.1).2)
theorem zED : Sound Tryz.prog base 58 zuG :=
 zo (cx' := zHR) zH zm zy (zn trivial) Tryz.call58 Tryz.func58 (c := body Tryz.f58) (by kernel_rfl) (zh (l := []) (by kernel_rfl) trivial) (sg := ⟨[.pure], []⟩) (A := zyE) (res := zwz) (W := fun x => zrY x.1 x.2.1) (z := default)
abbrev ttTannotationMul0 := List Term × Unit × Unit × List Term × Int × Int × List Term × Int × Int × Unit
abbrev ttTannotationMul1 := List Term × Term × Unit
abbrev ttTannotationMul2 := List Term × List Term × Int × Int × List Term
abbrev ttTannotationMul3 := List Term × Unit × List Term × Int × Int × Unit
abbrev ttTannotationMul4 := List Term × Unit
def zls (b : List Term) (t19 : List Term) (t20 : Int) (t21 : Int) (t25 : List Term) (t26 : Int) (t27 : Int) (terms : List Term) (x_ : Term) : Wy ttTannotationMul0 ttTannotationMul1 ttTannotationMul2 := .i (decide (t27 < t26)) (.i (decide (0 ≤ t27) && decide (t27 < Int.ofNat t25.length)) (.bn (zmH x_.Coeff (t25.getD t27.toNat default).Coeff) fun r5 => .bn (zk4 x_.Factors (t25.getD t27.toNat default).Factors) fun r4 => .i (decide ((terms.length + [TermOf.mk r5 r4].length) * 32 ≤ zV)) (.h (b, (), (), t19, t20, t21, t25, t26, (IntKind.i64.wrap (t27 + 1)), ()) ((terms ++ [TermOf.mk r5 r4]), x_, ())) .d) .d) (.k (b, t19, t20, t21, terms))
def zog (x : ttTannotationMul0) (y : ttTannotationMul1) : Wy ttTannotationMul0 ttTannotationMul1 ttTannotationMul2 := zls x.1 x.2.2.2.1 x.2.2.2.2.1 x.2.2.2.2.2.1 x.2.2.2.2.2.2.1 x.2.2.2.2.2.2.2.1 x.2.2.2.2.2.2.2.2.1 y.1 y.2.1
def zAt (n : Nat) (b : List Term) (t19 : List Term) (t20 : Int) (t21 : Int) (t25 : List Term) (t26 : Int) (t27 : Int) (terms : List Term) (x_ : Term) : Bool × ttTannotationMul2 := z7 (zog) default n (b, (), (), t19, t20, t21, t25, t26, t27, ()) (terms, x_, ())
def zyl (r : ttTannotationMul2) : LTree ty := .done (.exit 2) [.sl 42 r.1, .own 208, .sl 42 r.2.1, .lit (.int .i64 r.2.2.1), .lit (.int .i64 r.2.2.2.1)] [.arr 42 r.2.2.2.2 false]
def zAj : LL ty ttTannotationMul0 := za (lSl 42) (za (lOwn 208) (za (zg3 209 0) (za (lSl 42) (za (lInt .i64) (za (lInt .i64) (za (lSl 42) (za (lInt .i64) (za (lInt .i64) zK))))))))
def zAF : BL ty ttTannotationMul1 := bArr 42 false (bBox (ziu (fun x => (⟨x.1, x.2.1⟩ : Term)) (fun x => (x.Coeff, x.Factors, ())) (fun _ => rfl) (za (lInt .i64) (za (lSl 50) zK))) false (bNil))
def zlu (b : List Term) (t19 : List Term) (t20 : Int) (t21 : Int) (terms : List Term) : Wy ttTannotationMul3 ttTannotationMul4 (List Term) := .i (decide (t21 < t20)) (.i (decide (0 ≤ t21) && decide (t21 < Int.ofNat t19.length)) (.bn (zAt (b.length + t19.length + t20.toNat + t21.toNat + b.length + (Int.ofNat b.length).toNat + Int.toNat 0 + terms.length + (t19.getD t21.toNat default).Factors.length + 1) b t19 t20 t21 b (Int.ofNat b.length) 0 terms (t19.getD t21.toNat default)) fun r8 => .h ((r8.1), (), (r8.2.1), (r8.2.2.1), (IntKind.i64.wrap (r8.2.2.2.1 + 1)), ()) ((r8.2.2.2.2), ())) .d) (.k terms)
def zof (x : ttTannotationMul3) (y : ttTannotationMul4) : Wy ttTannotationMul3 ttTannotationMul4 (List Term) := zlu x.1 x.2.2.1 x.2.2.2.1 x.2.2.2.2.1 y.1
def ztf (n : Nat) (b : List Term) (t19 : List Term) (t20 : Int) (t21 : Int) (terms : List Term) : Bool × List Term := z7 (zof) default n (b, (), t19, t20, t21, ()) (terms, ())
def zyx (r : List Term) : LTree ty := .done (.exit 0) [.own 208] [.arr 42 r false]
def zAR : LL ty ttTannotationMul3 := za (lSl 42) (za (lOwn 208) (za (lSl 42) (za (lInt .i64) (za (lInt .i64) zK))))
def zAN : BL ty ttTannotationMul4 := bArr 42 false (bNil)
def zyV (x : ttTannotationMul0) (y : ttTannotationMul1) : Nat := (x.1.length + x.2.2.2.1.length + Int.toNat x.2.2.2.2.1 + Int.toNat x.2.2.2.2.2.1 + x.2.2.2.2.2.2.1.length + Int.toNat x.2.2.2.2.2.2.2.1 + Int.toNat x.2.2.2.2.2.2.2.2.1 + y.1.length + y.2.1.Factors.length + 1)
def zy7 (x : ttTannotationMul3) (y : ttTannotationMul4) : Nat := (x.1.length + x.2.2.1.length + Int.toNat x.2.2.2.1 + Int.toNat x.2.2.2.2.1 + y.1.length + 1)
def ztd : Cx ty := mkCx base0 52 [(31, annotation_Valid_spec), (53, zdU), (54, zna), (58, zuG), (59, zvt)] [] [(5, [(1, .keep), (6, .own 42), (19, .keep), (20, .keep), (21, .keep)]), (8, [(1, .keep), (6, .own 42), (8, .keep), (19, .keep), (20, .keep), (21, .keep), (25, .keep), (26, .keep), (27, .keep)])] [(5, 1, [(6, .keep)]), (8, 3, [(1, .keep), (6, .keep), (19, .keep), (20, .keep), (21, .keep)])] [(8, spW zAj zAF (zog) default zyl zyV), (5, spW zAR zAN (zof) default zyx zy7)] []
theorem zJf : zY ztd (lp (body Tryz.f16) 1) := zO (id := 8) (V := zAj) (B := zAF) (W := zog) (z := default) (tr := zyl) (m := zyV)
theorem zH4 : zY ztd (lp (body Tryz.f16) 0) := zO (id := 5) (V := zAR) (B := zAN) (W := zof) (z := default) (tr := zyx) (m := zy7)
def zuv (a : List Term) (b : List Term) : Wy0 (List Term × Int) := .bn (zca a) fun r14 => .i (!r14) (.k ([], 1)) (.bn (zca b) fun r13 => .i (!r13) (.k ([], 1)) (.bn (ztf (b.length + a.length + (Int.ofNat a.length).toNat + Int.toNat 0 + 0 + 1) b a (Int.ofNat a.length) 0 []) fun r12 => .bn (zgp r12) fun r11 => .bn (zdv r11) fun r10 => .k (r10.1, r10.2)))
def zmm (a : List Term) (b : List Term) : Bool × (List Term × Int) := (zuv a b).fin default
def zy0 (r : List Term × Int) : ARes ty := ⟨[.own 42 r.1, .pure (.lit (.int .i64 r.2))], []⟩
def zBt : AL base0 (List Term × List Term × Unit) := zf (zg (vSl 42)) (zf (zg (vSl 42)) aNil)
def zmO : Ab.Spec ty := zk zBt fun x => ((zmm x.1 x.2.1).1, zy0 (zmm x.1 x.2.1).2)
theorem zpS : Sound Tryz.prog base0 16 zmO :=
 zo (cx' := ztd) zH zib zy (zn ⟨zcS.nodr, zen.nodr, zrA, zED.nodr, zFf.nodr, trivial⟩) Tryz.call16 Tryz.func16 (c := body Tryz.f16) (by kernel_rfl) (zh (l := [lp (body Tryz.f16) 0, lp (body Tryz.f16) 1]) (by kernel_rfl) ⟨zH4, zJf, trivial⟩) (sg := ⟨[.own 42, .pure], []⟩) (A := zBt) (res := zy0) (W := fun x => zuv x.1 x.2.1) (z := default)
def zJO : Cx ty := mkCx base 9 [(62, zfd), (69, zom)] [] [] [] [] []
def zut (id : RowID) : Wy0 (List Term) := .bn (zmB id) fun r0 => .i (!r0) (.k []) (.k ((zei (Atom.mk 0 id [] 0 [] 0 (Value.mk 0 0 (ByteArray.mk #[])))).2))
def zl8 (id : RowID) : Bool × List Term := (zut id).fin default
def zzh (r : List Term) : ARes ty := ⟨[.own 42 r], []⟩
def zBP : AL base (RowID × Unit) := zf (zg (vAgg 25)) aNil
def zmP : Ab.Spec ty := zk zBP fun x => ((zl8 x.1).1, zzh (zl8 x.1).2)
theorem zps : Sound Tryz.prog base 27 zmP :=
 zo (cx' := zJO) zH zm zy (zn ⟨zhd, zry, trivial⟩) Tryz.call27 Tryz.func27 (c := body Tryz.f27) (by kernel_rfl) (zh (l := []) (by kernel_rfl) trivial) (sg := ⟨[.own 42], []⟩) (A := zBP) (res := zzh) (W := fun x => zut x.1) (z := default)
def zGp : Cx ty := mkCx base0 8 [(31, annotation_Valid_spec), (109, annotation_text_spec)] [] [] [] [] []
def zw6 (a : List Term) : Wy0 (ByteArray) := .bn (zca a) fun r1 => .i (!r1) (.k (ByteArray.mk #[])) (.bn (zEd a) fun r0 => .k r0)
def zAb (a : List Term) : Bool × ByteArray := (zw6 a).fin default
def zuD (r : ByteArray) : ARes ty := ⟨[.pure (.lit (.string r))], []⟩
def zw2 : AL base0 (List Term × Unit) := zf (zg (vSl 42)) aNil
def ztO : Ab.Spec ty := zk zw2 fun x => ((zAb x.1).1, zuD (zAb x.1).2)
theorem zDq : Sound Tryz.prog base0 51 ztO :=
 zo (cx' := zGp) zH zib zy (zn ⟨zcS.nodr, zE3, trivial⟩) Tryz.call51 Tryz.func51 (c := body Tryz.f51) (by kernel_rfl) (zh (l := []) (by kernel_rfl) trivial) (sg := ⟨[.pure], []⟩) (A := zw2) (res := zuD) (W := fun x => zw6 x.1) (z := default)
def ztA (r : List Term × Int) : ARes ty := ⟨[.own 42 r.1, .pure (.lit (.int .i64 r.2))], []⟩
def zvE : AL base0 (List Term × ((List Binding × Unit) × Unit) × Unit) := zf (zg (vSl 42)) (zf (zg (vFn 93 (zsB (vBox (zsB (vSl 69) vNil)) vNil))) aNil)
def zi5 (F : List Term → List Binding → Bool × (List Term × Int)) : Ab.Spec ty := zk zvE fun x => ((F x.1 x.2.1.1.1).1, ztA (F x.1 x.2.1.1.1).2)
def zpU (r : List Term × Int) : ARes ty := ⟨[.own 42 r.1, .pure (.lit (.int .i64 r.2))], []⟩
def zrS : AL base0 (Atom × ((List Binding × Unit) × Unit) × Unit) := zf (zg (vAgg 48)) (zf (zg (vFn 93 (zsB (vBox (zsB (vSl 69) vNil)) vNil))) aNil)
def zi8 (F : Atom → List Binding → Bool × (List Term × Int)) : Ab.Spec ty := zk zrS fun x => ((F x.1 x.2.1.1.1).1, zpU (F x.1 x.2.1.1.1).2)
def zvX : Cx ty := mkCx base 8 [] [] [] [] [] []
def zn0 (b : Binding) (p1 : RowID) : Wy0 (Bool) := .k (b.Row.Table == p1.Table && (b.Row.Seq == p1.Seq && true))
def zkp (b : Binding) (p1 : RowID) : Bool × Bool := (zn0 b p1).fin default
def zmZ (r : Bool) : ARes ty := ⟨[.pure (.lit (.bool r))], []⟩
def zn1 : AL base (Binding × RowID × Unit) := zf (zg (vAgg 69)) (zf (zg (zLv 25)) aNil)
def zid : Ab.Spec ty := zk zn1 fun x => ((zkp x.1 x.2.1).1, zmZ (zkp x.1 x.2.1).2)
theorem zl1 : Sound Tryz.prog base 95 zid :=
 zo (cx' := zvX) zH zm zy (zn trivial) Tryz.call95 Tryz.func95 (c := body Tryz.f95) (by kernel_rfl) (zh (l := []) (by kernel_rfl) trivial) (sg := ⟨[.pure], []⟩) (A := zn1) (res := zmZ) (W := fun x => zn0 x.1 x.2.1) (z := default)
abbrev ttTslicesIndexFuncLapiBindingapiBindings20 := List Binding × (RowID × Unit) × Int × Int × Unit
def zmW (s : List Binding) (f : RowID) (t7 : Int) (t8 : Int) : Wy ttTslicesIndexFuncLapiBindingapiBindings20 (Unit) (Int ⊕ Unit) := .i (decide (t8 < t7)) (.i (decide (0 ≤ t8) && decide (t8 < Int.ofNat s.length)) (.i ((zkp (s.getD t8.toNat default) f).2) (.k (.inl t8)) (.h (s, (f, ()), t7, (IntKind.i64.wrap (t8 + 1)), ()) ())) .d) (.k (.inr ()))
def zdQ (x : ttTslicesIndexFuncLapiBindingapiBindings20) (y : Unit) : Wy ttTslicesIndexFuncLapiBindingapiBindings20 (Unit) (Int ⊕ Unit) := zmW x.1 x.2.1.1 x.2.2.1 x.2.2.2.1
def zmS (n : Nat) (s : List Binding) (f : RowID) (t7 : Int) (t8 : Int) : Bool × (Int ⊕ Unit) := z7 (zdQ) (.inl default) n (s, (f, ()), t7, t8, ()) ()
def zgH (r : Int ⊕ Unit) : LTree ty := .ite (isL r) (.done .ret [.lit (.int .i64 (getL r))] []) (.done (.exit 0) [] [])
def zgW : LL ty ttTslicesIndexFuncLapiBindingapiBindings20 := za (lSl 69) (za (lFn 95 (za (zy9 (ziu (fun x => (⟨x.1, x.2.1⟩ : RowID)) (fun x => (x.Table, x.Seq, ())) (fun _ => rfl) (za (lInt .i64) (za (lInt .i64) zK))) 0) zK)) (za (lInt .i64) (za (lInt .i64) zK)))
def zgV : BL ty (Unit) := bNil
def zgr (x : ttTslicesIndexFuncLapiBindingapiBindings20) (y : Unit) : Nat := (x.1.length + Int.toNat x.2.2.1 + Int.toNat x.2.2.2.1 + 1)
def zgS : Cx ty := mkCx base 19 [(95, zid)] [] [(2, [(0, .keep), (1, .keep), (7, .keep), (8, .keep)])] [(2, 1, []), (2, 0, [(4, .keep)])] [(2, spW zgW zgV (zdQ) (.inl default) zgH zgr)] []
theorem zmA : zY zgS (lp (body Tryz.f94) 0) := zO (id := 2) (V := zgW) (B := zgV) (W := zdQ) (z := .inl default) (tr := zgH) (m := zgr)
def zhh (s : List Binding) (f : RowID) : Wy0 (Int) := .bn (zmS (s.length + (Int.ofNat s.length).toNat + Int.toNat 0 + 1) s f (Int.ofNat s.length) 0) fun r0 => .i (isL r0) (.k (getL r0)) (.k (-1 : Int))
def zd7 (s : List Binding) (f : RowID) : Bool × Int := (zhh s f).fin default
def zgB (r : Int) : ARes ty := ⟨[.pure (.lit (.int .i64 r))], []⟩
def zhj : AL base (List Binding × (RowID × Unit) × Unit) := zf (zg (vSl 69)) (zf (zg (vFn 95 (zsB (zLv 25) vNil))) aNil)
def zf2 : Ab.Spec ty := zk zhj fun x => ((zd7 x.1 x.2.1.1).1, zgB (zd7 x.1 x.2.1.1).2)
theorem zlE : Sound Tryz.prog base 94 zf2 :=
 zo (cx' := zgS) zH zm zy (zn ⟨zl1, trivial⟩) Tryz.call94 Tryz.func94 (c := body Tryz.f94) (by kernel_rfl) (zh (l := [lp (body Tryz.f94) 0]) (by kernel_rfl) ⟨zmA, trivial⟩) (sg := ⟨[.pure], []⟩) (A := zhj) (res := zgB) (W := fun x => zhh x.1 x.2.1.1) (z := default)
def zyN : Cx ty := mkCx base 18 [(27, zmP), (61, annotation_copied_spec), (94, zf2), (95, zid)] [] [] [] [] []
def zqa (id : RowID) (p1 : List Binding) : Wy0 (List Term) := .bn (zd7 p1 id) fun r2 => .i (decide (r2 ≥ 0)) (.i (decide (0 ≤ r2) && decide (r2 < Int.ofNat p1.length)) (.bn (zfr (p1.getD r2.toNat default).To) fun r0 => .k r0) .d) (.bn (zl8 id) fun r1 => .k r1)
def zmD (id : RowID) (p1 : List Binding) : Bool × List Term := (zqa id p1).fin default
def zov (r : List Term) : ARes ty := ⟨[.own 42 r], []⟩
def zpY : AL base (RowID × (List Binding × Unit) × Unit) := zf (zg (vAgg 25)) (zf (zg (vBox (zsB (vSl 69) vNil))) aNil)
def zgj : Ab.Spec ty := zk zpY fun x => ((zmD x.1 x.2.1.1).1, zov (zmD x.1 x.2.1.1).2)
theorem zi3 : Sound Tryz.prog base 93 zgj :=
 zo (cx' := zyN) zH zm zy (zn ⟨zps, zhq, zlE, zl1, trivial⟩) Tryz.call93 Tryz.func93 (c := body Tryz.f93) (by kernel_rfl) (zh (l := []) (by kernel_rfl) trivial) (sg := ⟨[.own 42], []⟩) (A := zpY) (res := zov) (W := fun x => zqa x.1 x.2.1.1) (z := default)
abbrev ttTannotationreplace0 := ((List Binding × Unit) × Unit) × Unit × Unit × List Term × Int × List Term × Int × Int × List Factor × Int × Int × Int × Int × Unit
abbrev ttTannotationreplace1 := List Term × List Term × Unit
abbrev ttTannotationreplace2 := List Binding × Int × List Term × Int × Int × List Factor × Int × Int × List Term × List Term
abbrev ttTannotationreplace3 := ((List Binding × Unit) × Unit) × Unit × Unit × List Term × Int × Int × List Factor × Int × Int × Unit
abbrev ttTannotationreplace4 := Int ⊕ (List Binding × List Term × Int × Int × List Term × List Term)
abbrev ttTannotationreplace5 := ((List Binding × Unit) × Unit) × Unit × List Term × Int × Int × Unit
abbrev ttTannotationreplace6 := List Term × Unit
abbrev ttTannotationreplace7 := Int ⊕ List Term
def zCK (zj : Atom → List Binding → Bool × (List Term × Int)) (to : List Binding) (b : List Term) (e : Int) (t16 : List Term) (t17 : Int) (t18 : Int) (t26 : List Factor) (t27 : Int) (t28 : Int) (t40 : Int) (t41 : Int) (sum : List Term) (product : List Term) : Wy ttTannotationreplace0 ttTannotationreplace1 ttTannotationreplace2 := .i (decide (t41 < t40)) (.i (e == 0) (.bn (zmm product b) fun r6 => .h (((to, ()), ()), (), (), b, (r6.2), t16, t17, t18, t26, t27, t28, t40, (IntKind.i64.wrap (t41 + 1)), ()) (sum, (r6.1), ())) (.h (((to, ()), ()), (), (), b, e, t16, t17, t18, t26, t27, t28, t40, (IntKind.i64.wrap (t41 + 1)), ()) (sum, product, ()))) (.k (to, e, t16, t17, t18, t26, t27, t28, sum, product))
def zmC (zj : Atom → List Binding → Bool × (List Term × Int)) (x : ttTannotationreplace0) (y : ttTannotationreplace1) : Wy ttTannotationreplace0 ttTannotationreplace1 ttTannotationreplace2 := zCK zj x.1.1.1 x.2.2.2.1 x.2.2.2.2.1 x.2.2.2.2.2.1 x.2.2.2.2.2.2.1 x.2.2.2.2.2.2.2.1 x.2.2.2.2.2.2.2.2.1 x.2.2.2.2.2.2.2.2.2.1 x.2.2.2.2.2.2.2.2.2.2.1 x.2.2.2.2.2.2.2.2.2.2.2.1 x.2.2.2.2.2.2.2.2.2.2.2.2.1 y.1 y.2.1
def zCQ (zj : Atom → List Binding → Bool × (List Term × Int)) (n : Nat) (to : List Binding) (b : List Term) (e : Int) (t16 : List Term) (t17 : Int) (t18 : Int) (t26 : List Factor) (t27 : Int) (t28 : Int) (t40 : Int) (t41 : Int) (sum : List Term) (product : List Term) : Bool × ttTannotationreplace2 := z7 (zmC zj) default n (((to, ()), ()), (), (), b, e, t16, t17, t18, t26, t27, t28, t40, t41, ()) (sum, product, ())
def zqP (r : ttTannotationreplace2) : LTree ty := .done (.exit 4) [.fn 93 ([.bptr ([.sl 69 r.1]) 0]), .own 272, .own 273, .lit (.int .i64 r.2.1), .sl 42 r.2.2.1, .lit (.int .i64 r.2.2.2.1), .lit (.int .i64 r.2.2.2.2.1), .sl 50 r.2.2.2.2.2.1, .lit (.int .i64 r.2.2.2.2.2.2.1), .lit (.int .i64 r.2.2.2.2.2.2.2.1)] [.arr 42 r.2.2.2.2.2.2.2.2.1 false, .arr 42 r.2.2.2.2.2.2.2.2.2 false]
def zr2 : LL ty ttTannotationreplace0 := za (lFn 93 (za (zy9 (za (lSl 69) zK) 0) zK)) (za (lOwn 272) (za (lOwn 273) (za (lSl 42) (za (lInt .i64) (za (lSl 42) (za (lInt .i64) (za (lInt .i64) (za (lSl 50) (za (lInt .i64) (za (lInt .i64) (za (lInt .i64) (za (lInt .i64) zK))))))))))))
def zrr : BL ty ttTannotationreplace1 := bArr 42 false (bArr 42 false (bNil))
def zDl (zj : Atom → List Binding → Bool × (List Term × Int)) (to : List Binding) (t16 : List Term) (t17 : Int) (t18 : Int) (t26 : List Factor) (t27 : Int) (t28 : Int) (sum : List Term) (product : List Term) : Wy ttTannotationreplace3 ttTannotationreplace1 ttTannotationreplace4 := .i (decide (t28 < t27)) (.i (decide (0 ≤ t28) && decide (t28 < Int.ofNat t26.length)) (.bn (zj (Atom.mk (t26.getD t28.toNat default).Atom.Kind (t26.getD t28.toNat default).Atom.Row (t26.getD t28.toNat default).Atom.Args (t26.getD t28.toNat default).Atom.Func (t26.getD t28.toNat default).Atom.Items (t26.getD t28.toNat default).Atom.Op (t26.getD t28.toNat default).Atom.Bound) to) fun r9 => .bn (zCQ zj (to.length + r9.1.length + r9.2.toNat + t16.length + t17.toNat + t18.toNat + t26.length + t27.toNat + t28.toNat + (t26.getD t28.toNat default).Exp.toNat + Int.toNat 0 + sum.length + product.length + 1) to r9.1 r9.2 t16 t17 t18 t26 t27 t28 (t26.getD t28.toNat default).Exp 0 sum product) fun r8 => .i (r8.2.1 != 0) (.k (.inl (r8.2.1))) (.h ((((r8.1), ()), ()), (), (), (r8.2.2.1), (r8.2.2.2.1), (r8.2.2.2.2.1), (r8.2.2.2.2.2.1), (r8.2.2.2.2.2.2.1), (IntKind.i64.wrap (r8.2.2.2.2.2.2.2.1 + 1)), ()) ((r8.2.2.2.2.2.2.2.2.1), (r8.2.2.2.2.2.2.2.2.2), ()))) .d) (.k (.inr (to, t16, t17, t18, sum, product)))
def znc (zj : Atom → List Binding → Bool × (List Term × Int)) (x : ttTannotationreplace3) (y : ttTannotationreplace1) : Wy ttTannotationreplace3 ttTannotationreplace1 ttTannotationreplace4 := zDl zj x.1.1.1 x.2.2.2.1 x.2.2.2.2.1 x.2.2.2.2.2.1 x.2.2.2.2.2.2.1 x.2.2.2.2.2.2.2.1 x.2.2.2.2.2.2.2.2.1 y.1 y.2.1
def zC9 (zj : Atom → List Binding → Bool × (List Term × Int)) (n : Nat) (to : List Binding) (t16 : List Term) (t17 : Int) (t18 : Int) (t26 : List Factor) (t27 : Int) (t28 : Int) (sum : List Term) (product : List Term) : Bool × ttTannotationreplace4 := z7 (znc zj) (.inl default) n (((to, ()), ()), (), (), t16, t17, t18, t26, t27, t28, ()) (sum, product, ())
def zrm (r : ttTannotationreplace4) : LTree ty := .ite (isL r) (.done .ret [.lit (.slice none 0 0), .lit (.int .i64 (getL r))] []) (.done (.exit 2) [.fn 93 ([.bptr ([.sl 69 (getR r).1]) 0]), .own 272, .own 273, .sl 42 (getR r).2.1, .lit (.int .i64 (getR r).2.2.1), .lit (.int .i64 (getR r).2.2.2.1)] [.arr 42 (getR r).2.2.2.2.1 false, .arr 42 (getR r).2.2.2.2.2 false])
def zs3 : LL ty ttTannotationreplace3 := za (lFn 93 (za (zy9 (za (lSl 69) zK) 0) zK)) (za (lOwn 272) (za (lOwn 273) (za (lSl 42) (za (lInt .i64) (za (lInt .i64) (za (lSl 50) (za (lInt .i64) (za (lInt .i64) zK))))))))
def zs8 : BL ty ttTannotationreplace1 := bArr 42 false (bArr 42 false (bNil))
def zDa (zj : Atom → List Binding → Bool × (List Term × Int)) (to : List Binding) (t16 : List Term) (t17 : Int) (t18 : Int) (sum : List Term) : Wy ttTannotationreplace5 ttTannotationreplace6 ttTannotationreplace7 := .i (decide (t18 < t17)) (.i (decide (0 ≤ t18) && decide (t18 < Int.ofNat t16.length)) (.bn (zj9 (t16.getD t18.toNat default).Coeff) fun r14 => .bn (zC9 zj (to.length + t16.length + t17.toNat + t18.toNat + (t16.getD t18.toNat default).Factors.length + (Int.ofNat (t16.getD t18.toNat default).Factors.length).toNat + Int.toNat 0 + sum.length + r14.length + 1) to t16 t17 t18 (t16.getD t18.toNat default).Factors (Int.ofNat (t16.getD t18.toNat default).Factors.length) 0 sum r14) fun r13 => .i (isL r13) (.k (.inl (getL r13))) (.bn (zmk (getR r13).2.2.2.2.1 (getR r13).2.2.2.2.2) fun r12 => .i (r12.2 != 0) (.k (.inl (r12.2))) (.h ((((getR r13).1, ()), ()), (), (getR r13).2.1, (getR r13).2.2.1, (IntKind.i64.wrap ((getR r13).2.2.2.1 + 1)), ()) ((r12.1), ())))) .d) (.k (.inr sum))
def zne (zj : Atom → List Binding → Bool × (List Term × Int)) (x : ttTannotationreplace5) (y : ttTannotationreplace6) : Wy ttTannotationreplace5 ttTannotationreplace6 ttTannotationreplace7 := zDa zj x.1.1.1 x.2.2.1 x.2.2.2.1 x.2.2.2.2.1 y.1
def zDp (zj : Atom → List Binding → Bool × (List Term × Int)) (n : Nat) (to : List Binding) (t16 : List Term) (t17 : Int) (t18 : Int) (sum : List Term) : Bool × ttTannotationreplace7 := z7 (zne zj) (.inl default) n (((to, ()), ()), (), t16, t17, t18, ()) (sum, ())
def zsf (r : ttTannotationreplace7) : LTree ty := .ite (isL r) (.done .ret [.lit (.slice none 0 0), .lit (.int .i64 (getL r))] []) (.done (.exit 0) [.own 272] [.arr 42 (getR r) false])
def zsY : LL ty ttTannotationreplace5 := za (lFn 93 (za (zy9 (za (lSl 69) zK) 0) zK)) (za (lOwn 272) (za (lSl 42) (za (lInt .i64) (za (lInt .i64) zK))))
def zsK : BL ty ttTannotationreplace6 := bArr 42 false (bNil)
def zq4 (x : ttTannotationreplace0) (y : ttTannotationreplace1) : Nat := (x.1.1.1.length + x.2.2.2.1.length + Int.toNat x.2.2.2.2.1 + x.2.2.2.2.2.1.length + Int.toNat x.2.2.2.2.2.2.1 + Int.toNat x.2.2.2.2.2.2.2.1 + x.2.2.2.2.2.2.2.2.1.length + Int.toNat x.2.2.2.2.2.2.2.2.2.1 + Int.toNat x.2.2.2.2.2.2.2.2.2.2.1 + Int.toNat x.2.2.2.2.2.2.2.2.2.2.2.1 + Int.toNat x.2.2.2.2.2.2.2.2.2.2.2.2.1 + y.1.length + y.2.1.length + 1)
def zso (x : ttTannotationreplace3) (y : ttTannotationreplace1) : Nat := (x.1.1.1.length + x.2.2.2.1.length + Int.toNat x.2.2.2.2.1 + Int.toNat x.2.2.2.2.2.1 + x.2.2.2.2.2.2.1.length + Int.toNat x.2.2.2.2.2.2.2.1 + Int.toNat x.2.2.2.2.2.2.2.2.1 + y.1.length + y.2.1.length + 1)
def zrz (x : ttTannotationreplace5) (y : ttTannotationreplace6) : Nat := (x.1.1.1.length + x.2.2.1.length + Int.toNat x.2.2.2.1 + Int.toNat x.2.2.2.2.1 + y.1.length + 1)
def zjH (zj : Atom → List Binding → Bool × (List Term × Int)) : Cx ty := mkCx base0 68 [(13, zmM), (16, zmO), (25, zkW), (93, zgj), (140, (zi8 zj))] [] [(3, [(1, .keep), (6, .own 42), (16, .keep), (17, .keep), (18, .keep)]), (7, [(1, .keep), (6, .keep), (9, .keep), (16, .keep), (17, .keep), (18, .keep), (26, .keep), (27, .keep), (28, .keep)]), (11, [(1, .keep), (6, .keep), (9, .keep), (12, .sl 42), (13, .keep), (16, .keep), (17, .keep), (18, .keep), (26, .keep), (27, .keep), (28, .keep), (40, .keep), (41, .keep)])] [(3, 1, [(6, .keep)]), (3, 0, [(4, .keep), (5, .keep)]), (7, 3, [(1, .keep), (6, .keep), (9, .keep), (16, .keep), (17, .keep), (18, .keep)]), (7, 0, [(4, .keep), (5, .keep)]), (11, 5, [(1, .keep), (6, .keep), (9, .keep), (13, .keep), (16, .keep), (17, .keep), (18, .keep), (26, .keep), (27, .keep), (28, .keep)])] [(11, spW zr2 zrr (zmC zj) default zqP zq4), (7, spW zs3 zs8 (znc zj) (.inl default) zrm zso), (3, spW zsY zsK (zne zj) (.inl default) zsf zrz)] []
theorem zBg (zj : Atom → List Binding → Bool × (List Term × Int)) : zY (zjH zj) (lp (body Tryz.f92) 2) := zO (id := 11) (V := zr2) (B := zrr) (W := zmC zj) (z := default) (tr := zqP) (m := zq4)
theorem zBq (zj : Atom → List Binding → Bool × (List Term × Int)) : zY (zjH zj) (lp (body Tryz.f92) 1) := zO (id := 7) (V := zs3) (B := zs8) (W := znc zj) (z := .inl default) (tr := zrm) (m := zso)
theorem zCD (zj : Atom → List Binding → Bool × (List Term × Int)) : zY (zjH zj) (lp (body Tryz.f92) 0) := zO (id := 3) (V := zsY) (B := zsK) (W := zne zj) (z := .inl default) (tr := zsf) (m := zrz)
def zt9 (zj : Atom → List Binding → Bool × (List Term × Int)) (a : List Term) (to : List Binding) : Wy0 (List Term × Int) := .bn (zDp zj (to.length + a.length + (Int.ofNat a.length).toNat + Int.toNat 0 + 0 + 1) to a (Int.ofNat a.length) 0 []) fun r18 => .i (isL r18) (.k ([], getL r18)) (.k (getR r18, 0))
def zwc (zj : Atom → List Binding → Bool × (List Term × Int)) (a : List Term) (to : List Binding) : Bool × (List Term × Int) := (zt9 zj a to).fin default
theorem zz3 (zj : Atom → List Binding → Bool × (List Term × Int)) (zzG : Sound Tryz.prog base0 140 (zi8 zj)) : Sound Tryz.prog base0 92 (zi5 (zwc zj)) :=
 zo (cx' := (zjH zj)) zH zib zy (zn ⟨zpr, zpS, znZ.nodr, zi3.nodr, zzG, trivial⟩) Tryz.call92 Tryz.func92 (c := body Tryz.f92) (by kernel_rfl) (zh (l := [lp (body Tryz.f92) 0, lp (body Tryz.f92) 1, lp (body Tryz.f92) 2]) (by kernel_rfl) ⟨zCD zj, zBq zj, zBg zj, trivial⟩) (sg := ⟨[.own 42, .pure], []⟩) (A := zvE) (res := ztA) (W := fun x => zt9 zj x.1 x.2.1.1.1) (z := default)
def zeQ (x : List Weighted) (a b : Int) : Bool × List Weighted := zMc zbu x a b
def slices_insertionSortCmpFunc_api_Weighted_spec : Ab.Spec ty := zk (cx := base) (zf (aOwn 52) (zf (zg (vInt .i64)) (zf (zg (vInt .i64)) (zf (zg (vFn 85 vNil)) aNil)))) fun x => ((zeQ x.1 x.2.1 x.2.2.1).1, ⟨[], [some ⟨52, (zeQ x.1 x.2.1 x.2.2.1).2⟩]⟩)
theorem znK (c : Unit) (x y : Weighted) (h : (zbu x y).1 = true) : annotation_compareItems_spec ((AV.agg (base.enc 52 x) :: AV.agg (base.enc 52 y) :: (vNil : VL base Unit).enc c).map Arg.pure) = some (true, ⟨[.pure (.lit (.int .i64 (zbu x y).2))], []⟩) := by
 rw [← h]; kernel_rfl
theorem zm9 : Sound Tryz.prog base 164 slices_insertionSortCmpFunc_api_Weighted_spec := by
 letI : DecidableEq (ty 52) := inferInstanceAs (DecidableEq Weighted)
 exact zRo (T := 52) zm rfl Go.Proofs.Tryz.insW Tryz.isAgg52 (by unfold szOf; exact Tryz.sizeOf52) Tryz.call164 zgk vNil (fun c => zbu) znK
open Go.Proofs Go.RowKit
def zb3 (x : List Weighted) (m : Int) : Bool × List Weighted := (decide (SortOK zbu x) && (decide (m = x.length) && decide (m < 20)), zmN zbu x)
def zjT : Ab.Spec ty := zk (cx := base) (zf (aOwn 52) (zf (zg (vInt .i64)) (zf (zg (vFn 85 vNil)) aNil))) fun x => ((zb3 x.1 x.2.1).1, ⟨[], [some ⟨52, (zb3 x.1 x.2.1).2⟩]⟩)
set_option maxHeartbeats 1000000 in
theorem zqi : Sound Tryz.prog base 139 zjT where
 enters := Tryz.call139
 calls := fun avs r hsp w F vs hF ha hsep => by
  unfold zjT zk at hsp
  split at hsp
  ·rename_i x hx
   simp only [Option.some.injEq, Prod.mk.injEq] at hsp
   obtain ⟨hpre, rfl⟩ := hsp
   have hk := (zf (aOwn 52) (zf (zg (vInt .i64)) (zf (zg (vFn 85 vNil)) aNil)) : AL base _).kind vs avs x hx
   have ha' := (zf (aOwn 52) (zf (zg (vInt .i64)) (zf (zg (vFn 85 vNil)) aNil)) : AL base _).ok Tryz.prog zm F w vs avs x hx ha
   rw [hk] at hsep ⊢
   clear hk hx ha
   obtain ⟨l0, m, c, u0⟩ := x
   obtain ⟨l, rfl⟩ : ∃ l : List Weighted, l = l0 := ⟨l0, rfl⟩
   obtain ⟨v, vs', rfl, hv, hv'⟩ := ha'.inv
   obtain ⟨mv, vs1, rfl, hm, hv1⟩ := hv'.inv
   obtain ⟨fv, vs'', rfl, hfv, h0⟩ := hv1.inv
   obtain rfl := h0.nil_left.1
   have hm : Rep base F w mv (.lit (.int .i64 m)) := hm
   obtain rfl : mv = .int .i64 m := by cases hm; rfl
   have hsl : ∃ p cap, v = .slice p l.length cap := by
    obtain ⟨⟨xs, hown, _⟩, _⟩ := (show zcK base F w v 52 l ∧ ∀ b, z8 v = some b → ¬ F b from hv)
    rcases hown.2 with ⟨h1, h2⟩ | ⟨g0, cap, cur, h1, _⟩
    ·exact ⟨none, 0, by rw [h1, show l.length = 0 from h2]⟩
    ·exact ⟨_, cap, h1⟩
   have hpre : (decide (SortOK (α := Weighted) zbu l) && (decide (m = l.length) && decide (m < 20))) = true := hpre
   simp only [Bool.and_eq_true, decide_eq_true_eq] at hpre
   obtain ⟨hok, rfl, h20⟩ := hpre
   have hpp : (zeQ l 0 (l.length : Int)).1 = true := by
    show (decide (SortOK (α := Weighted) zbu l) && (decide ((0 : Int) = 0) && decide ((l.length : Int) = l.length))) = true
    simp only [Bool.and_eq_true, decide_eq_true_eq]
    exact ⟨hok, trivial, trivial⟩
   have hp := (zm9).calls [.own 52 l, .pure (.lit (.int .i64 0)), .pure (.lit (.int .i64 (l.length : Int))), .pure (.fn 85 [])] ⟨[], [some ⟨52, (zb3 l (l.length : Int)).2⟩]⟩
    (by rw [← hpp]; kernel_rfl) w F [v, .int .i64 0, .int .i64 (l.length : Int), fv] hF (.cons hv (.cons (Rep.lit _) (.cons (Rep.lit _) (.cons hfv .nil)))) hsep
   replace hp : Calls Tryz.prog 164 #[v, .int .i64 0, .int .i64 (l.length : Int), fv] w fun e w' => ∃ u, e = .returned u ∧ Post base F w [v] ⟨[], [some ⟨52, (zb3 l (l.length : Int)).2⟩]⟩ u w' := hp
   show Calls Tryz.prog 139 #[v, .int .i64 (l.length : Int), fv] w fun e w' => ∃ u, e = .returned u ∧ Post base F w [v] ⟨[], [some ⟨52, (zb3 l (l.length : Int)).2⟩]⟩ u w'
   generalize (zb3 l (l.length : Int)).2 = res at hp ⊢
   generalize hn : l.length = m at *
   clear hpp hv hfv hsep hok hF hm
   obtain ⟨p, cap, rfl⟩ := hsl
   clear hn
   go_enter Tryz.func139, Tryz.ntmps139
   go_wp2
   refine wp_loop_rounds 1 ?_
   rw [rounds_succ]
   go_wp2_with (go_at_call 164; refine hp.mono ?_; rintro e w' ⟨u, rfl, hpost⟩; obtain rfl := hpost.unit)
   refine wp_loop_rounds 1 ?_
   rw [rounds_succ]
   go_wp2
   all_goals first | (exfalso; omega) | (go_end0; exact ⟨_, rfl, hpost⟩)
  ·cases hsp
end Go.Proofs.YtnolcogncjijpaaGreatDoor
namespace Go.Proofs.YtnolcogncjijpaaGreatDoor
open Go Go.Ab
open Go.Proofs Go.RowKit
def zbp (x : List Weighted) : Bool × List Weighted := (decide (SortOK zbu x) && decide (x.length < 20), zmN zbu x)
def zc3 : Ab.Spec ty := zk (cx := base) (zf (aOwn 52) (zf (zg (vFn 85 vNil)) aNil)) fun x => ((zbp x.1).1, ⟨[], [some ⟨52, (zbp x.1).2⟩]⟩)
set_option maxHeartbeats 1000000 in
theorem zkJ : Sound Tryz.prog base 84 zc3 where
 enters := Tryz.call84
 calls := fun avs r hsp w F vs hF ha hsep => by
  unfold zc3 zk at hsp
  split at hsp
  ·rename_i x hx
   simp only [Option.some.injEq, Prod.mk.injEq] at hsp
   obtain ⟨hpre, rfl⟩ := hsp
   have hk := (zf (aOwn 52) (zf (zg (vFn 85 vNil)) aNil) : AL base _).kind vs avs x hx
   have ha' := (zf (aOwn 52) (zf (zg (vFn 85 vNil)) aNil) : AL base _).ok Tryz.prog zm F w vs avs x hx ha
   rw [hk] at hsep ⊢
   clear hk hx ha
   obtain ⟨l0, c, u0⟩ := x
   obtain ⟨l, rfl⟩ : ∃ l : List Weighted, l = l0 := ⟨l0, rfl⟩
   obtain ⟨v, vs', rfl, hv, hv'⟩ := ha'.inv
   obtain ⟨fv, vs'', rfl, hfv, h0⟩ := hv'.inv
   obtain rfl := h0.nil_left.1
   have hsl : ∃ p cap, v = .slice p l.length cap := by
    obtain ⟨⟨xs, hown, _⟩, _⟩ := (show zcK base F w v 52 l ∧ ∀ b, z8 v = some b → ¬ F b from hv)
    rcases hown.2 with ⟨h1, h2⟩ | ⟨g0, cap, cur, h1, _⟩
    ·exact ⟨none, 0, by rw [h1, show l.length = 0 from h2]⟩
    ·exact ⟨_, cap, h1⟩
   have hpre : (decide (SortOK (α := Weighted) zbu l) && decide (l.length < 20)) = true := hpre
   simp only [Bool.and_eq_true, decide_eq_true_eq] at hpre
   obtain ⟨hok, h20⟩ := hpre
   have hpp : (zb3 l (l.length : Int)).1 = true := by
    show (decide (SortOK (α := Weighted) zbu l) && (decide ((l.length : Int) = l.length) && decide ((l.length : Int) < 20))) = true
    simp only [Bool.and_eq_true, decide_eq_true_eq]
    exact ⟨hok, trivial, by omega⟩
   have hp := (zqi).calls [.own 52 l, .pure (.lit (.int .i64 (l.length : Int))), .pure (.fn 85 [])] ⟨[], [some ⟨52, (zbp l).2⟩]⟩
    (by rw [← hpp]; kernel_rfl) w F [v, .int .i64 (l.length : Int), fv] hF (.cons hv (.cons (Rep.lit _) (.cons hfv .nil))) hsep
   replace hp : Calls Tryz.prog 139 #[v, .int .i64 (l.length : Int), fv] w fun e w' => ∃ u, e = .returned u ∧ Post base F w [v] ⟨[], [some ⟨52, (zbp l).2⟩]⟩ u w' := hp
   show Calls Tryz.prog 84 #[v, fv] w fun e w' => ∃ u, e = .returned u ∧ Post base F w [v] ⟨[], [some ⟨52, (zbp l).2⟩]⟩ u w'
   generalize (zbp l).2 = res at hp ⊢
   generalize hn : l.length = m at *
   clear hpp hv hfv hsep hok hF
   obtain ⟨p, cap, rfl⟩ := hsl
   clear hn
   go_enter Tryz.func84, Tryz.ntmps84
   go_wp2_with (go_at_call 139; refine hp.mono ?_; rintro e w' ⟨u, rfl, hpost⟩; obtain rfl := hpost.unit)
   go_end0
   exact ⟨_, rfl, hpost⟩
  ·cases hsp
end Go.Proofs.YtnolcogncjijpaaGreatDoor
namespace Go.Proofs.YtnolcogncjijpaaGreatDoor
open Go Go.Ab
abbrev ttTannotationItems0 := Unit × List Weighted × Int × Int × Unit
abbrev ttTannotationItems1 := List Weighted × Unit
def zHH (t6 : List Weighted) (t7 : Int) (t8 : Int) (out_ : List Weighted) : Wy ttTannotationItems0 ttTannotationItems1 (List Weighted) := .i (decide (t8 < t7)) (.i (decide (0 ≤ t8) && decide (t8 < Int.ofNat t6.length)) (.i (decide (Int.ofNat (t6.getD t8.toNat default).Ann.length > 0)) (.bn (zfr (t6.getD t8.toNat default).Ann) fun r0 => .i (decide ((out_.length + [WeightedOf.mk (t6.getD t8.toNat default).Value r0].length) * 56 ≤ zV)) (.h ((), t6, t7, (IntKind.i64.wrap (t8 + 1)), ()) ((out_ ++ [WeightedOf.mk (t6.getD t8.toNat default).Value r0]), ())) .d) (.h ((), t6, t7, (IntKind.i64.wrap (t8 + 1)), ()) (out_, ()))) .d) (.k out_)
def zqF (x : ttTannotationItems0) (y : ttTannotationItems1) : Wy ttTannotationItems0 ttTannotationItems1 (List Weighted) := zHH x.2.1 x.2.2.1 x.2.2.2.1 y.1
def zHJ (n : Nat) (t6 : List Weighted) (t7 : Int) (t8 : Int) (out_ : List Weighted) : Bool × List Weighted := z7 (zqF) default n ((), t6, t7, t8, ()) (out_, ())
def zwf (r : List Weighted) : LTree ty := .done (.exit 0) [.own 116] [.arr 52 r false]
def zwR : LL ty ttTannotationItems0 := za (lOwn 116) (za (lSl 52) (za (lInt .i64) (za (lInt .i64) zK)))
def zxg : BL ty ttTannotationItems1 := bArr 52 false (bNil)
def zvQ (x : ttTannotationItems0) (y : ttTannotationItems1) : Nat := (x.2.1.length + Int.toNat x.2.2.1 + Int.toNat x.2.2.2.1 + y.1.length + 1)
def zxe : Cx ty := mkCx base 29 [(61, annotation_copied_spec), (84, zc3), (85, annotation_compareItems_spec)] [(84, [true, false])] [(3, [(3, .own 52), (6, .keep), (7, .keep), (8, .keep)])] [(3, 1, [(3, .keep)])] [(3, spW zwR zxg (zqF) default zwf zvQ)] []
theorem zFV : zY zxe (lp (body Tryz.f36) 0) := zO (id := 3) (V := zwR) (B := zxg) (W := zqF) (z := default) (tr := zwf) (m := zvQ)
def zzx (l : List Weighted) : Wy0 (List Weighted) := .bn (zHJ (l.length + (Int.ofNat l.length).toNat + Int.toNat 0 + 0 + 1) l (Int.ofNat l.length) 0 []) fun r3 => .bn (zbp r3) fun r2 => .k r2
def zus (l : List Weighted) : Bool × List Weighted := (zzx l).fin default
def zwF (r : List Weighted) : ARes ty := ⟨[.own 52 r], []⟩
def zyq : AL base ttTannotationItems1 := zf (zg (vSl 52)) aNil
def zuN : Ab.Spec ty := zk zyq fun x => ((zus x.1).1, zwF (zus x.1).2)
theorem zEO : Sound Tryz.prog base 36 zuN :=
 zo (cx' := zxe) zH zm zy (zn ⟨zhq, zkJ, zgk, trivial⟩) Tryz.call36 Tryz.func36 (c := body Tryz.f36) (by kernel_rfl) (zh (l := [lp (body Tryz.f36) 0]) (by kernel_rfl) ⟨zFV, trivial⟩) (sg := ⟨[.own 52], []⟩) (A := zyq) (res := zwF) (W := fun x => zzx x.1) (z := default)
def zE9 : Cx ty := mkCx base 7 [(31, annotation_Valid_spec)] [] [] [] [] []
def zvR (w : Weighted) : Wy0 (Bool) := .bn (zca w.Ann) fun r0 => .k (!r0)
def zrU (w : Weighted) : Bool × Bool := (zvR w).fin default
def ztv (r : Bool) : ARes ty := ⟨[.pure (.lit (.bool r))], []⟩
def zvI : AL base (Weighted × Unit) := zf (zg (vAgg 52)) aNil
def zjE : Ab.Spec ty := zk zvI fun x => ((zrU x.1).1, ztv (zrU x.1).2)
theorem zmG : Sound Tryz.prog base 77 zjE :=
 zo (cx' := zE9) zH zm zy (zn ⟨zcS, trivial⟩) Tryz.call77 Tryz.func77 (c := body Tryz.f77) (by kernel_rfl) (zh (l := []) (by kernel_rfl) trivial) (sg := ⟨[.pure], []⟩) (A := zvI) (res := ztv) (W := fun x => zvR x.1) (z := default)
def zHQ : Cx ty := mkCx base 28 [] [] [] [] [] []
def zzj (op : Int) (sign : Int) : Wy0 (Bool) := .i (op == 5) (.k (sign == 0)) (.i (op == 6) (.k (sign != 0)) (.i (op == 7) (.k (decide (sign < 0))) (.i (op == 8) (.k (decide (sign ≤ 0))) (.i (op == 9) (.k (decide (sign > 0))) (.k (decide (sign ≥ 0)))))))
def zux (op : Int) (sign : Int) : Bool × Bool := (zzj op sign).fin default
def zvC (r : Bool) : ARes ty := ⟨[.pure (.lit (.bool r))], []⟩
def zyS : AL base (Int × Int × Unit) := zf (zg (vInt .i64)) (zf (zg (vInt .i64)) aNil)
def zuZ : Ab.Spec ty := zk zyS fun x => ((zux x.1 x.2.1).1, zvC (zux x.1 x.2.1).2)
theorem zEL : Sound Tryz.prog base 78 zuZ :=
 zo (cx' := zHQ) zH zm zy (zn trivial) Tryz.call78 Tryz.func78 (c := body Tryz.f78) (by kernel_rfl) (zh (l := []) (by kernel_rfl) trivial) (sg := ⟨[.pure], []⟩) (A := zyS) (res := zvC) (W := fun x => zzj x.1 x.2.1) (z := default)
abbrev ttTslicesIndexFuncLapiWeightedapiWeightedt10 := List Weighted × Unit × Int × Int × Unit
def zmn (s : List Weighted) (t7 : Int) (t8 : Int) : Wy ttTslicesIndexFuncLapiWeightedapiWeightedt10 (Unit) (Int ⊕ Unit) := .i (decide (t8 < t7)) (.i (decide (0 ≤ t8) && decide (t8 < Int.ofNat s.length)) (.bn (zrU (s.getD t8.toNat default)) fun r0 => .i (r0) (.k (.inl t8)) (.h (s, (), t7, (IntKind.i64.wrap (t8 + 1)), ()) ())) .d) (.k (.inr ()))
def zdy (x : ttTslicesIndexFuncLapiWeightedapiWeightedt10) (y : Unit) : Wy ttTslicesIndexFuncLapiWeightedapiWeightedt10 (Unit) (Int ⊕ Unit) := zmn x.1 x.2.2.1 x.2.2.2.1
def zmb (n : Nat) (s : List Weighted) (t7 : Int) (t8 : Int) : Bool × (Int ⊕ Unit) := z7 (zdy) (.inl default) n (s, (), t7, t8, ()) ()
def zfN (r : Int ⊕ Unit) : LTree ty := .ite (isL r) (.done .ret [.lit (.int .i64 (getL r))] []) (.done (.exit 0) [] [])
def zgd : LL ty ttTslicesIndexFuncLapiWeightedapiWeightedt10 := za (lSl 52) (za (lFn 77 (zK)) (za (lInt .i64) (za (lInt .i64) zK)))
def zf3 : BL ty (Unit) := bNil
def zfL (x : ttTslicesIndexFuncLapiWeightedapiWeightedt10) (y : Unit) : Nat := (x.1.length + Int.toNat x.2.2.1 + Int.toNat x.2.2.2.1 + 1)
def zf8 : Cx ty := mkCx base 19 [(77, zjE)] [] [(2, [(0, .keep), (1, .keep), (7, .keep), (8, .keep)])] [(2, 1, []), (2, 0, [(4, .keep)])] [(2, spW zgd zf3 (zdy) (.inl default) zfN zfL)] []
theorem zlG : zY zf8 (lp (body Tryz.f135) 0) := zO (id := 2) (V := zgd) (B := zf3) (W := zdy) (z := .inl default) (tr := zfN) (m := zfL)
def zgF (s : List Weighted) : Wy0 (Int) := .bn (zmb (s.length + (Int.ofNat s.length).toNat + Int.toNat 0 + 1) s (Int.ofNat s.length) 0) fun r2 => .i (isL r2) (.k (getL r2)) (.k (-1 : Int))
def zdX (s : List Weighted) : Bool × Int := (zgF s).fin default
def zfQ (r : Int) : ARes ty := ⟨[.pure (.lit (.int .i64 r))], []⟩
def zgu : AL base (List Weighted × Unit × Unit) := zf (zg (vSl 52)) (zf (zg (vFn 77 vNil)) aNil)
def zfv : Ab.Spec ty := zk zgu fun x => ((zdX x.1).1, zfQ (zdX x.1).2)
theorem zk8 : Sound Tryz.prog base 135 zfv :=
 zo (cx' := zf8) zH zm zy (zn ⟨zmG, trivial⟩) Tryz.call135 Tryz.func135 (c := body Tryz.f135) (by kernel_rfl) (zh (l := [lp (body Tryz.f135) 0]) (by kernel_rfl) ⟨zlG, trivial⟩) (sg := ⟨[.pure], []⟩) (A := zgu) (res := zfQ) (W := fun x => zgF x.1) (z := default)
def zlf : Cx ty := mkCx base 9 [(77, zjE), (135, zfv)] [] [] [] [] []
def zfq (s : List Weighted) : Wy0 (Bool) := .bn (zdX s) fun r0 => .k (decide (r0 ≥ 0))
def zdx (s : List Weighted) : Bool × Bool := (zfq s).fin default
def zeU (r : Bool) : ARes ty := ⟨[.pure (.lit (.bool r))], []⟩
def zfp : AL base (List Weighted × Unit × Unit) := zf (zg (vSl 52)) (zf (zg (vFn 77 vNil)) aNil)
def zeC : Ab.Spec ty := zk zfp fun x => ((zdx x.1).1, zeU (zdx x.1).2)
theorem zkj : Sound Tryz.prog base 76 zeC :=
 zo (cx' := zlf) zH zm zy (zn ⟨zmG, zk8, trivial⟩) Tryz.call76 Tryz.func76 (c := body Tryz.f76) (by kernel_rfl) (zh (l := []) (by kernel_rfl) trivial) (sg := ⟨[.pure], []⟩) (A := zfp) (res := zeU) (W := fun x => zfq x.1) (z := default)
def zH8 : Cx ty := mkCx base 45 [(29, zjU), (36, zuN), (53, zdU), (62, zfd), (75, zm2), (76, zeC), (77, zjE), (78, zuZ), (79, zkg)] [] [] [] [] []
def zAq (fn : Int) (items : List Weighted) (op : Int) (bound : Value) : Wy0 (List Term × Int) := .bn (zii fn items op bound) fun r5 => .i (!r5) (.k ([], 1)) (.bn (zdx items) fun r4 => .i (r4) (.k ([], 1)) (.bn (zus items) fun r3 => .i (decide (Int.ofNat r3.length > 0)) (.bn (zdv (zei (Atom.mk 4 (RowID.mk 0 0) [] fn r3 op bound)).2) fun r0 => .k (r0.1, r0.2)) (.i (fn == 0) (.bn (zhz 0 bound.Int) fun r2 => .bn (zux op r2) fun r1 => .i (r1) (.k (zou.2, 0)) (.k ([], 0))) (.k ([], 0)))))
def zvB (fn : Int) (items : List Weighted) (op : Int) (bound : Value) : Bool × (List Term × Int) := (zAq fn items op bound).fin default
def zxc (r : List Term × Int) : ARes ty := ⟨[.own 42 r.1, .pure (.lit (.int .i64 r.2))], []⟩
def zAA : AL base (Int × List Weighted × Int × Value × Unit) := zf (zg (vInt .i64)) (zf (zg (vSl 52)) (zf (zg (vInt .i64)) (zf (zg (vAgg 46)) aNil)))
def zwl : Ab.Spec ty := zk zAA fun x => ((zvB x.1 x.2.1 x.2.2.1 x.2.2.2.1).1, zxc (zvB x.1 x.2.1 x.2.2.1 x.2.2.2.1).2)
theorem zFO : Sound Tryz.prog base 33 zwl :=
 zo (cx' := zH8) zH zm zy (zn ⟨zlY, zEO, zen, zhd, zrN, zkj, zmG, zEL, zm6, trivial⟩) Tryz.call33 Tryz.func33 (c := body Tryz.f33) (by kernel_rfl) (zh (l := []) (by kernel_rfl) trivial) (sg := ⟨[.own 42, .pure], []⟩) (A := zAA) (res := zxc) (W := fun x => zAq x.1 x.2.1 x.2.2.1 x.2.2.2.1) (z := default)
abbrev ttTannotationreplaceAtom0 := ((List Binding × Unit) × Unit) × Unit × Unit × List (List Term) × Int × Int × Unit
abbrev ttTannotationreplaceAtom1 := Atom × List (List Term) × Unit
abbrev ttTannotationreplaceAtom2 := Int ⊕ (List Binding × Atom × List (List Term))
abbrev ttTannotationreplaceAtom3 := ((List Binding × Unit) × Unit) × Unit × Unit × List Weighted × Int × Int × Unit
abbrev ttTannotationreplaceAtom4 := Atom × List Weighted × Unit
abbrev ttTannotationreplaceAtom5 := Int ⊕ (Atom × List Weighted)
def zyp (zI : List Term → List Binding → Bool × (List Term × Int)) (to : List Binding) (t24 : List (List Term)) (t25 : Int) (t26 : Int) (x_ : Atom) (args : List (List Term)) : Wy ttTannotationreplaceAtom0 ttTannotationreplaceAtom1 ttTannotationreplaceAtom2 := .i (decide (t26 < t25)) (.i (decide (0 ≤ t26) && decide (t26 < Int.ofNat t24.length)) (.bn (zI (t24.getD t26.toNat default) to) fun r2 => .i (r2.2 != 0) (.k (.inl (r2.2))) (.i (decide ((args.length + [r2.1].length) * 24 ≤ zV)) (.h (((to, ()), ()), (), (), t24, t25, (IntKind.i64.wrap (t26 + 1)), ()) (x_, (args ++ [r2.1]), ())) .d)) .d) (.k (.inr (to, x_, args)))
def zkF (zI : List Term → List Binding → Bool × (List Term × Int)) (x : ttTannotationreplaceAtom0) (y : ttTannotationreplaceAtom1) : Wy ttTannotationreplaceAtom0 ttTannotationreplaceAtom1 ttTannotationreplaceAtom2 := zyp zI x.1.1.1 x.2.2.2.1 x.2.2.2.2.1 x.2.2.2.2.2.1 y.1 y.2.1
def zye (zI : List Term → List Binding → Bool × (List Term × Int)) (n : Nat) (to : List Binding) (t24 : List (List Term)) (t25 : Int) (t26 : Int) (x_ : Atom) (args : List (List Term)) : Bool × ttTannotationreplaceAtom2 := z7 (zkF zI) (.inl default) n (((to, ()), ()), (), (), t24, t25, t26, ()) (x_, args, ())
def zoZ (r : ttTannotationreplaceAtom2) : LTree ty := .ite (isL r) (.done .ret [.lit (.slice none 0 0), .lit (.int .i64 (getL r))] []) (.done (.exit 0) [.fn 93 ([.bptr ([.sl 69 (getR r).1]) 0]), .ptr 432 0, .own 433] [.box (base.enc 48 (getR r).2.1) false, .arr 23 (getR r).2.2 false])
def zpe : LL ty ttTannotationreplaceAtom0 := za (lFn 93 (za (zy9 (za (lSl 69) zK) 0) zK)) (za (zg3 432 0) (za (lOwn 433) (za (lSl 23) (za (lInt .i64) (za (lInt .i64) zK)))))
def zpc : BL ty ttTannotationreplaceAtom1 := bBox (ziu (fun x => (⟨x.1, ⟨x.2.1, x.2.2.1⟩, x.2.2.2.1, x.2.2.2.2.1, x.2.2.2.2.2.1, x.2.2.2.2.2.2.1, ⟨x.2.2.2.2.2.2.2.1, x.2.2.2.2.2.2.2.2.1, x.2.2.2.2.2.2.2.2.2.1⟩⟩ : Atom)) (fun x => (x.Kind, x.Row.Table, x.Row.Seq, x.Args, x.Func, x.Items, x.Op, x.Bound.Kind, x.Bound.Int, x.Bound.Text, ())) (fun _ => rfl) (za (lInt .i64) (za (lInt .i64) (za (lInt .i64) (za (lSl 23) (za (lInt .i64) (za (lSl 52) (za (lInt .i64) (za (lInt .i64) (za (lInt .i64) (za lStr zK))))))))))) false (bArr 23 false (bNil))
def zxI (zI : List Term → List Binding → Bool × (List Term × Int)) (to : List Binding) (t74 : List Weighted) (t75 : Int) (t76 : Int) (x_ : Atom) (items : List Weighted) : Wy ttTannotationreplaceAtom3 ttTannotationreplaceAtom4 ttTannotationreplaceAtom5 := .i (decide (t76 < t75)) (.i (decide (0 ≤ t76) && decide (t76 < Int.ofNat t74.length)) (.bn (zI (t74.getD t76.toNat default).Ann to) fun r4 => .i (r4.2 != 0) (.k (.inl (r4.2))) (.i (decide ((items.length + [WeightedOf.mk (t74.getD t76.toNat default).Value r4.1].length) * 56 ≤ zV)) (.h (((to, ()), ()), (), (), t74, t75, (IntKind.i64.wrap (t76 + 1)), ()) (x_, (items ++ [WeightedOf.mk (t74.getD t76.toNat default).Value r4.1]), ())) .d)) .d) (.k (.inr (x_, items)))
def zka (zI : List Term → List Binding → Bool × (List Term × Int)) (x : ttTannotationreplaceAtom3) (y : ttTannotationreplaceAtom4) : Wy ttTannotationreplaceAtom3 ttTannotationreplaceAtom4 ttTannotationreplaceAtom5 := zxI zI x.1.1.1 x.2.2.2.1 x.2.2.2.2.1 x.2.2.2.2.2.1 y.1 y.2.1
def zx4 (zI : List Term → List Binding → Bool × (List Term × Int)) (n : Nat) (to : List Binding) (t74 : List Weighted) (t75 : Int) (t76 : Int) (x_ : Atom) (items : List Weighted) : Bool × ttTannotationreplaceAtom5 := z7 (zka zI) (.inl default) n (((to, ()), ()), (), (), t74, t75, t76, ()) (x_, items, ())
def zoa (r : ttTannotationreplaceAtom5) : LTree ty := .ite (isL r) (.done .ret [.lit (.slice none 0 0), .lit (.int .i64 (getL r))] []) (.done (.exit 3) [.ptr 432 0, .own 433] [.box (base.enc 48 (getR r).1) false, .arr 52 (getR r).2 false])
def zoD : LL ty ttTannotationreplaceAtom3 := za (lFn 93 (za (zy9 (za (lSl 69) zK) 0) zK)) (za (zg3 432 0) (za (lOwn 433) (za (lSl 52) (za (lInt .i64) (za (lInt .i64) zK)))))
def zoy : BL ty ttTannotationreplaceAtom4 := bBox (ziu (fun x => (⟨x.1, ⟨x.2.1, x.2.2.1⟩, x.2.2.2.1, x.2.2.2.2.1, x.2.2.2.2.2.1, x.2.2.2.2.2.2.1, ⟨x.2.2.2.2.2.2.2.1, x.2.2.2.2.2.2.2.2.1, x.2.2.2.2.2.2.2.2.2.1⟩⟩ : Atom)) (fun x => (x.Kind, x.Row.Table, x.Row.Seq, x.Args, x.Func, x.Items, x.Op, x.Bound.Kind, x.Bound.Int, x.Bound.Text, ())) (fun _ => rfl) (za (lInt .i64) (za (lInt .i64) (za (lInt .i64) (za (lSl 23) (za (lInt .i64) (za (lSl 52) (za (lInt .i64) (za (lInt .i64) (za (lInt .i64) (za lStr zK))))))))))) false (bArr 52 false (bNil))
def zoz (x : ttTannotationreplaceAtom0) (y : ttTannotationreplaceAtom1) : Nat := (x.1.1.1.length + x.2.2.2.1.length + Int.toNat x.2.2.2.2.1 + Int.toNat x.2.2.2.2.2.1 + y.1.Args.length + y.1.Items.length + y.2.1.length + 1)
def zn5 (x : ttTannotationreplaceAtom3) (y : ttTannotationreplaceAtom4) : Nat := (x.1.1.1.length + x.2.2.2.1.length + Int.toNat x.2.2.2.2.1 + Int.toNat x.2.2.2.2.2.1 + y.1.Args.length + y.1.Items.length + y.2.1.length + 1)
def zkN (zI : List Term → List Binding → Bool × (List Term × Int)) : Cx ty := mkCx base0 108 [(18, zk3), (20, zkT), (22, znI), (33, zwl), (92, (zi5 zI)), (93, zgj)] [] [(5, [(1, .keep), (2, .keep), (6, .own 23), (24, .keep), (25, .keep), (26, .keep)]), (21, [(1, .keep), (2, .keep), (11, .own 52), (74, .keep), (75, .keep), (76, .keep)])] [(5, 1, [(1, .keep), (2, .keep), (6, .keep)]), (5, 0, [(4, .keep), (5, .keep)]), (21, 4, [(2, .keep), (11, .keep)]), (21, 0, [(4, .keep), (5, .keep)])] [(5, spW zpe zpc (zkF zI) (.inl default) zoZ zoz), (21, spW zoD zoy (zka zI) (.inl default) zoa zn5)] []
theorem zxV (zI : List Term → List Binding → Bool × (List Term × Int)) : zY (zkN zI) (lp (body Tryz.f140) 0) := zO (id := 5) (V := zpe) (B := zpc) (W := zkF zI) (z := .inl default) (tr := zoZ) (m := zoz)
theorem zwL (zI : List Term → List Binding → Bool × (List Term × Int)) : zY (zkN zI) (lp (body Tryz.f140) 1) := zO (id := 21) (V := zoD) (B := zoy) (W := zka zI) (z := .inl default) (tr := zoa) (m := zn5)
def zqj (zI : List Term → List Binding → Bool × (List Term × Int)) (x_ : Atom) (to : List Binding) : Wy0 (List Term × Int) := .i (x_.Kind == 0) (.bn (zmD x_.Row to) fun r6 => .k (r6, 0)) (.bn (zye zI (to.length + x_.Args.length + (Int.ofNat x_.Args.length).toNat + Int.toNat 0 + x_.Args.length + x_.Items.length + 0 + 1) to x_.Args (Int.ofNat x_.Args.length) 0 (Atom.mk x_.Kind x_.Row x_.Args x_.Func x_.Items x_.Op x_.Bound) []) fun r12 => .i (isL r12) (.k ([], getL r12)) (.i ((getR r12).2.1.Kind == 1) (.i (decide ((0 : Int) ≤ (0 : Int)) && decide (0 < Int.ofNat (getR r12).2.2.length)) (.i (decide ((0 : Int) ≤ (1 : Int)) && decide (1 < Int.ofNat (getR r12).2.2.length)) (.bn (zj6 ((getR r12).2.2.getD (Int.toNat 0) default) ((getR r12).2.2.getD (Int.toNat 1) default)) fun r7 => .k (r7.1, r7.2)) .d) .d) (.i ((getR r12).2.1.Kind == 2) (.i (decide ((0 : Int) ≤ (0 : Int)) && decide (0 < Int.ofNat (getR r12).2.2.length)) (.bn (zj5 ((getR r12).2.2.getD (Int.toNat 0) default)) fun r8 => .k (r8.1, r8.2)) .d) (.i ((getR r12).2.1.Kind == 3) (.i (decide ((0 : Int) ≤ (0 : Int)) && decide (0 < Int.ofNat (getR r12).2.2.length)) (.bn (zjo ((getR r12).2.2.getD (Int.toNat 0) default)) fun r9 => .k (r9.1, r9.2)) .d) (.bn (zx4 zI ((getR r12).1.length + (getR r12).2.1.Items.length + (Int.ofNat (getR r12).2.1.Items.length).toNat + Int.toNat 0 + (getR r12).2.1.Args.length + (getR r12).2.1.Items.length + 0 + 1) (getR r12).1 (getR r12).2.1.Items (Int.ofNat (getR r12).2.1.Items.length) 0 (Atom.mk (getR r12).2.1.Kind (getR r12).2.1.Row (getR r12).2.1.Args (getR r12).2.1.Func (getR r12).2.1.Items (getR r12).2.1.Op (getR r12).2.1.Bound) []) fun r11 => .i (isL r11) (.k ([], getL r11)) (.bn (zvB (getR r11).1.Func (getR r11).2 (getR r11).1.Op (getR r11).1.Bound) fun r10 => .k (r10.1, r10.2)))))))
def zrT (zI : List Term → List Binding → Bool × (List Term × Int)) (x_ : Atom) (to : List Binding) : Bool × (List Term × Int) := (zqj zI x_ to).fin default
theorem zv5 (zI : List Term → List Binding → Bool × (List Term × Int)) (zEG : Sound Tryz.prog base0 92 (zi5 zI)) : Sound Tryz.prog base0 140 (zi8 (zrT zI)) :=
 zo (cx' := (zkN zI)) zH zib zy (zn ⟨znO.nodr, znQ.nodr, zsV.nodr, zFO.nodr, zEG, zi3.nodr, trivial⟩) Tryz.call140 Tryz.func140 (c := body Tryz.f140) (by kernel_rfl) (zh (l := [lp (body Tryz.f140) 0, lp (body Tryz.f140) 1]) (by kernel_rfl) ⟨zxV zI, zwL zI, trivial⟩) (sg := ⟨[.own 42, .pure], []⟩) (A := zrS) (res := zpU) (W := fun x => zqj zI x.1 x.2.1.1.1) (z := default)
def zyd : Nat → (List Term → List Binding → Bool × (List Term × Int)) × (Atom → List Binding → Bool × (List Term × Int))
 | 0 => (fun _ _ => (false, default), fun _ _ => (false, default))
 | n + 1 => (zwc ((zyd n).2), zrT ((zyd n).1))
def zv3 (n : Nat) : List Term → List Binding → Bool × (List Term × Int) := (zyd n).1
def zBR (n : Nat) : Atom → List Binding → Bool × (List Term × Int) := (zyd n).2
theorem zGN : ∀ n, Sound Tryz.prog base0 92 (zi5 (zv3 n)) ∧ Sound Tryz.prog base0 140 (zi8 (zBR n))
 | 0 => ⟨zbj Tryz.call92 (fun _ => rfl), zbj Tryz.call140 (fun _ => rfl)⟩
 | n + 1 => by
  have ih := zGN n
  exact ⟨zz3 _ (ih.2), zv5 _ (ih.1)⟩
def zyC : List Term → List Binding → Bool × (List Term × Int) := zv3 1000
def annotation_replace_spec : Ab.Spec ty := zi5 zyC
theorem zCY : Sound Tryz.prog base0 92 annotation_replace_spec := (zGN 1000).1
def zyw : Cx ty := mkCx base 7 [(31, annotation_Valid_spec)] [] [] [] [] []
def zqo (b : Binding) : Wy0 (Bool) := .bn (zca b.To) fun r0 => .k (!r0)
def zmx (b : Binding) : Bool × Bool := (zqo b).fin default
def zor (r : Bool) : ARes ty := ⟨[.pure (.lit (.bool r))], []⟩
def zp8 : AL base (Binding × Unit) := zf (zg (vAgg 69)) aNil
def zgi : Ab.Spec ty := zk zp8 fun x => ((zmx x.1).1, zor (zmx x.1).2)
theorem ziS : Sound Tryz.prog base 91 zgi :=
 zo (cx' := zyw) zH zm zy (zn ⟨zcS, trivial⟩) Tryz.call91 Tryz.func91 (c := body Tryz.f91) (by kernel_rfl) (zh (l := []) (by kernel_rfl) trivial) (sg := ⟨[.pure], []⟩) (A := zp8) (res := zor) (W := fun x => zqo x.1) (z := default)
abbrev ttTslicesIndexFuncLapiBindingapiBindings10 := List Binding × Unit × Int × Int × Unit
def zmX (s : List Binding) (t7 : Int) (t8 : Int) : Wy ttTslicesIndexFuncLapiBindingapiBindings10 (Unit) (Int ⊕ Unit) := .i (decide (t8 < t7)) (.i (decide (0 ≤ t8) && decide (t8 < Int.ofNat s.length)) (.bn (zmx (s.getD t8.toNat default)) fun r0 => .i (r0) (.k (.inl t8)) (.h (s, (), t7, (IntKind.i64.wrap (t8 + 1)), ()) ())) .d) (.k (.inr ()))
def zdP (x : ttTslicesIndexFuncLapiBindingapiBindings10) (y : Unit) : Wy ttTslicesIndexFuncLapiBindingapiBindings10 (Unit) (Int ⊕ Unit) := zmX x.1 x.2.2.1 x.2.2.2.1
def zmY (n : Nat) (s : List Binding) (t7 : Int) (t8 : Int) : Bool × (Int ⊕ Unit) := z7 (zdP) (.inl default) n (s, (), t7, t8, ()) ()
def zgD (r : Int ⊕ Unit) : LTree ty := .ite (isL r) (.done .ret [.lit (.int .i64 (getL r))] []) (.done (.exit 0) [] [])
def zgU : LL ty ttTslicesIndexFuncLapiBindingapiBindings10 := za (lSl 69) (za (lFn 91 (zK)) (za (lInt .i64) (za (lInt .i64) zK)))
def zgT : BL ty (Unit) := bNil
def zgx (x : ttTslicesIndexFuncLapiBindingapiBindings10) (y : Unit) : Nat := (x.1.length + Int.toNat x.2.2.1 + Int.toNat x.2.2.2.1 + 1)
def zgR : Cx ty := mkCx base 19 [(91, zgi)] [] [(2, [(0, .keep), (1, .keep), (7, .keep), (8, .keep)])] [(2, 1, []), (2, 0, [(4, .keep)])] [(2, spW zgU zgT (zdP) (.inl default) zgD zgx)] []
theorem zms : zY zgR (lp (body Tryz.f94) 0) := zO (id := 2) (V := zgU) (B := zgT) (W := zdP) (z := .inl default) (tr := zgD) (m := zgx)
def zhf (s : List Binding) : Wy0 (Int) := .bn (zmY (s.length + (Int.ofNat s.length).toNat + Int.toNat 0 + 1) s (Int.ofNat s.length) 0) fun r2 => .i (isL r2) (.k (getL r2)) (.k (-1 : Int))
def zd4 (s : List Binding) : Bool × Int := (zhf s).fin default
def zgv (r : Int) : ARes ty := ⟨[.pure (.lit (.int .i64 r))], []⟩
def zho : AL base (List Binding × Unit × Unit) := zf (zg (vSl 69)) (zf (zg (vFn 91 vNil)) aNil)
def zgc : Ab.Spec ty := zk zho fun x => ((zd4 x.1).1, zgv (zd4 x.1).2)
theorem zlW : Sound Tryz.prog base 94 zgc :=
 zo (cx' := zgR) zH zm zy (zn ⟨ziS, trivial⟩) Tryz.call94 Tryz.func94 (c := body Tryz.f94) (by kernel_rfl) (zh (l := [lp (body Tryz.f94) 0]) (by kernel_rfl) ⟨zms, trivial⟩) (sg := ⟨[.pure], []⟩) (A := zho) (res := zgv) (W := fun x => zhf x.1) (z := default)
def zlD : Cx ty := mkCx base 9 [(91, zgi), (94, zgc)] [] [] [] [] []
def zga (s : List Binding) : Wy0 (Bool) := .bn (zd4 s) fun r0 => .k (decide (r0 ≥ 0))
def zdR (s : List Binding) : Bool × Bool := (zga s).fin default
def zfl (r : Bool) : ARes ty := ⟨[.pure (.lit (.bool r))], []⟩
def zf4 : AL base (List Binding × Unit × Unit) := zf (zg (vSl 69)) (zf (zg (vFn 91 vNil)) aNil)
def zeX : Ab.Spec ty := zk zf4 fun x => ((zdR x.1).1, zfl (zdR x.1).2)
theorem zkP : Sound Tryz.prog base 90 zeX :=
 zo (cx' := zlD) zH zm zy (zn ⟨ziS, zlW, trivial⟩) Tryz.call90 Tryz.func90 (c := body Tryz.f90) (by kernel_rfl) (zh (l := []) (by kernel_rfl) trivial) (sg := ⟨[.pure], []⟩) (A := zf4) (res := zfl) (W := fun x => zga x.1) (z := default)
def zCW : Cx ty := mkCx base0 18 [(31, annotation_Valid_spec), (90, zeX), (91, zgi), (92, annotation_replace_spec), (93, zgj)] [] [] [] [] []
def zsU (a : List Term) (l : List Binding) : Wy0 (List Term × Int) := .bn (zca a) fun r2 => .i (!r2) (.k ([], 1)) (.bn (zdR l) fun r1 => .i (r1) (.k ([], 1)) (.bn (zyC a l) fun r0 => .k (r0.1, r0.2)))
def zve (a : List Term) (l : List Binding) : Bool × (List Term × Int) := (zsU a l).fin default
def zq3 (r : List Term × Int) : ARes ty := ⟨[.own 42 r.1, .pure (.lit (.int .i64 r.2))], []⟩
def zsX : AL base0 (List Term × List Binding × Unit) := zf (zg (vSl 42)) (zf (zg (vSl 69)) aNil)
def zqs : Ab.Spec ty := zk zsX fun x => ((zve x.1 x.2.1).1, zq3 (zve x.1 x.2.1).2)
theorem zy8 : Sound Tryz.prog base0 41 zqs :=
 zo (cx' := zCW) zH zib zy (zn ⟨zcS.nodr, zkP.nodr, ziS.nodr, zCY, zi3.nodr, trivial⟩) Tryz.call41 Tryz.func41 (c := body Tryz.f41) (by kernel_rfl) (zh (l := []) (by kernel_rfl) trivial) (sg := ⟨[.own 42, .pure], []⟩) (A := zsX) (res := zq3) (W := fun x => zsU x.1 x.2.1) (z := default)
def zMs : Cx ty := mkCx base0 84 [(13, zmM), (16, zmO), (18, zk3), (20, zkT), (25, zkW), (27, zmP), (41, zqs), (51, ztO)] [] [] [] [] []
def zHn : Wy0 (Bool) := .k true
def zJU : Bool × Bool := (zHn).fin default
def zD7 (r : Bool) : ARes ty := ⟨[.pure (.lit (.bool r))], []⟩
def zHu : AL base0 (Unit) := aNil
def zCk : Ab.Spec ty := zk zHu fun x => ((zJU ).1, zD7 (zJU ).2)
theorem zJB : Sound Tryz.prog base0 11 zCk :=
 zo (cx' := zMs) zH zib zy (zn ⟨zpr, zpS, znO.nodr, znQ.nodr, znZ.nodr, zps.nodr, zy8, zDq, trivial⟩) Tryz.call11 Tryz.func11 (c := body Tryz.f11) (by kernel_rfl) (zh (l := []) (by kernel_rfl) trivial) (sg := ⟨[.pure], []⟩) (A := zHu) (res := zD7) (W := fun x => zHn ) (z := default)
def zAk (r : Int) : ARes ty := ⟨[.pure (.lit (.int .i64 r))], []⟩
def zDu : AL base (List Term × List Term × Unit) := zf (zg (vSl 42)) (zf (zg (vSl 42)) aNil)
def ziT (F : List Term → List Term → Bool × Int) : Ab.Spec ty := zk zDu fun x => ((F x.1 x.2.1).1, zAk (F x.1 x.2.1).2)
def zr4 (r : Int) : ARes ty := ⟨[.pure (.lit (.int .i64 r))], []⟩
def ztJ : AL base (List Factor × List Factor × Unit) := zf (zg (vSl 50)) (zf (zg (vSl 50)) aNil)
def zhY (F : List Factor → List Factor → Bool × Int) : Ab.Spec ty := zk ztJ fun x => ((F x.1 x.2.1).1, zr4 (F x.1 x.2.1).2)
def zuA (r : Int) : ARes ty := ⟨[.pure (.lit (.int .i64 r))], []⟩
def zw0 : AL base (Atom × Atom × Unit) := zf (zg (vAgg 48)) (zf (zg (vAgg 48)) aNil)
def zjW (F : Atom → Atom → Bool × Int) : Ab.Spec ty := zk zw0 fun x => ((F x.1 x.2.1).1, zuA (F x.1 x.2.1).2)
def ztu (r : Int) : ARes ty := ⟨[.pure (.lit (.int .i64 r))], []⟩
def zvy : AL base (List Weighted × List Weighted × Unit) := zf (zg (vSl 52)) (zf (zg (vSl 52)) aNil)
def ziL (F : List Weighted → List Weighted → Bool × Int) : Ab.Spec ty := zk zvy fun x => ((F x.1 x.2.1).1, ztu (F x.1 x.2.1).2)
def zLl : Cx ty := mkCx base 11 [] [] [] [] [] []
def zxF (a : Int) (b : Int) : Wy0 (Int) := .i (decide (a < b)) (.k (-1 : Int)) (.i (decide (a > b)) (.k 1) (.k 0))
def zcp (a : Int) (b : Int) : Bool × Int := (zxF a b).fin default
def zCL (r : Int) : ARes ty := ⟨[.pure (.lit (.int .i64 r))], []⟩
def zEX : AL base (Int × Int × Unit) := zf (zg (vInt .i64)) (zf (zg (vInt .i64)) aNil)
def zjk : Ab.Spec ty := zk zEX fun x => ((zcp x.1 x.2.1).1, zCL (zcp x.1 x.2.1).2)
theorem zks : Sound Tryz.prog base 82 zjk :=
 zo (cx' := zLl) zH zm zy (zn trivial) Tryz.call82 Tryz.func82 (c := body Tryz.f82) (by kernel_rfl) (zh (l := []) (by kernel_rfl) trivial) (sg := ⟨[.pure], []⟩) (A := zEX) (res := zCL) (W := fun x => zxF x.1 x.2.1) (z := default)
abbrev ttTref05Compare0 := List Term × List Term × Int × Unit
abbrev ttTref05Compare1 := Int ⊕ (List Term × List Term)
def zIY (zZ : List Factor → List Factor → Bool × Int) (a : List Term) (b : List Term) (i : Int) : Wy ttTref05Compare0 (Unit) ttTref05Compare1 := .i (decide (i < Int.ofNat a.length)) (.i (decide (i < Int.ofNat b.length)) (.i (decide (0 ≤ i) && decide (i < Int.ofNat a.length)) (.i (decide (0 ≤ i) && decide (i < Int.ofNat b.length)) (.bn (zZ (a.getD i.toNat default).Factors (b.getD i.toNat default).Factors) fun r1 => .i (r1 != 0) (.k (.inl (r1))) (.i (decide (0 ≤ i) && decide (i < Int.ofNat a.length)) (.i (decide (0 ≤ i) && decide (i < Int.ofNat b.length)) (.bn (zcp (a.getD i.toNat default).Coeff (b.getD i.toNat default).Coeff) fun r0 => .i (r0 != 0) (.k (.inl (r0))) (.h (a, b, (IntKind.i64.wrap (i + 1)), ()) ())) .d) .d)) .d) .d) (.k (.inr (a, b)))) (.k (.inr (a, b)))
def zrV (zZ : List Factor → List Factor → Bool × Int) (x : ttTref05Compare0) (y : Unit) : Wy ttTref05Compare0 (Unit) ttTref05Compare1 := zIY zZ x.1 x.2.1 x.2.2.1
def zIE (zZ : List Factor → List Factor → Bool × Int) (n : Nat) (a : List Term) (b : List Term) (i : Int) : Bool × ttTref05Compare1 := z7 (zrV zZ) (.inl default) n (a, b, i, ()) ()
def zwZ (r : ttTref05Compare1) : LTree ty := .ite (isL r) (.done .ret [.lit (.int .i64 (getL r))] []) (.done (.exit 0) [.sl 42 (getR r).1, .sl 42 (getR r).2] [])
def zyO : LL ty ttTref05Compare0 := za (lSl 42) (za (lSl 42) (za (lInt .i64) zK))
def zyj : BL ty (Unit) := bNil
def zxq (x : ttTref05Compare0) (y : Unit) : Nat := (x.1.length + x.2.1.length + Int.toNat x.2.2.1 + 1)
def zyQ (zZ : List Factor → List Factor → Bool × Int) : Cx ty := mkCx base 53 [(82, zjk), (89, (zhY zZ))] [] [(2, [(0, .keep), (1, .keep), (5, .keep)])] [(2, 1, [(0, .keep), (1, .keep)]), (2, 0, [(4, .keep)])] [(2, spW zyO zyj (zrV zZ) (.inl default) zwZ zxq)] []
theorem zHN (zZ : List Factor → List Factor → Bool × Int) : zY (zyQ zZ) (lp (body Tryz.f39) 0) := zO (id := 2) (V := zyO) (B := zyj) (W := zrV zZ) (z := .inl default) (tr := zwZ) (m := zxq)
def zAy (zZ : List Factor → List Factor → Bool × Int) (a : List Term) (b : List Term) : Wy0 (Int) := .bn (zIE zZ (a.length + b.length + Int.toNat 0 + 1) a b 0) fun r5 => .i (isL r5) (.k (getL r5)) (.bn (zcp (Int.ofNat (getR r5).1.length) (Int.ofNat (getR r5).2.length)) fun r4 => .k r4)
def zqX (zZ : List Factor → List Factor → Bool × Int) (a : List Term) (b : List Term) : Bool × Int := (zAy zZ a b).fin default
theorem zFh (zZ : List Factor → List Factor → Bool × Int) (zBr : Sound Tryz.prog base 89 (zhY zZ)) : Sound Tryz.prog base 39 (ziT (zqX zZ)) :=
 zo (cx' := (zyQ zZ)) zH zm zy (zn ⟨zks, zBr, trivial⟩) Tryz.call39 Tryz.func39 (c := body Tryz.f39) (by kernel_rfl) (zh (l := [lp (body Tryz.f39) 0]) (by kernel_rfl) ⟨zHN zZ, trivial⟩) (sg := ⟨[.pure], []⟩) (A := zDu) (res := zAk) (W := fun x => zAy zZ x.1 x.2.1) (z := default)
def zNW : Cx ty := mkCx base 4 [] [] [] [] [] []
def zCo (less : Bool) : Wy0 (Int) := .i (less) (.k (-1 : Int)) (.k 1)
def zsz (less : Bool) : Bool × Int := (zCo less).fin default
def zFv (r : Int) : ARes ty := ⟨[.pure (.lit (.int .i64 r))], []⟩
def zI7 : AL base (Bool × Unit) := zf (zg zUY) aNil
def zEb : Ab.Spec ty := zk zI7 fun x => ((zsz x.1).1, zFv (zsz x.1).2)
theorem zKz : Sound Tryz.prog base 138 zEb :=
 zo (cx' := zNW) zH zm zy (zn trivial) Tryz.call138 Tryz.func138 (c := body Tryz.f138) (by kernel_rfl) (zh (l := []) (by kernel_rfl) trivial) (sg := ⟨[.pure], []⟩) (A := zI7) (res := zFv) (W := fun x => zCo x.1) (z := default)
def zKM : Cx ty := mkCx base 38 [(138, zEb)] [] [] [] [] []
def zws (a : Value) (b : Value) : Wy0 (Int) := .i (a.Kind != b.Kind) (.bn (zsz (decide (a.Kind < b.Kind))) fun r0 => .k r0) (.i (a.Int != b.Int) (.bn (zsz (decide (a.Int < b.Int))) fun r1 => .k r1) (.i (!a.Text.toList == b.Text.toList) (.bn (zsz (Op.bytesLess a.Text.toList b.Text.toList)) fun r2 => .k r2) (.k 0)))
def zlc (a : Value) (b : Value) : Bool × Int := (zws a b).fin default
def zAW (r : Int) : ARes ty := ⟨[.pure (.lit (.int .i64 r))], []⟩
def zDU : AL base (Value × Value × Unit) := zf (zg (vAgg 46)) (zf (zg (vAgg 46)) aNil)
def zrC : Ab.Spec ty := zk zDU fun x => ((zlc x.1 x.2.1).1, zAW (zlc x.1 x.2.1).2)
theorem zw9 : Sound Tryz.prog base 83 zrC :=
 zo (cx' := zKM) zH zm zy (zn ⟨zKz, trivial⟩) Tryz.call83 Tryz.func83 (c := body Tryz.f83) (by kernel_rfl) (zh (l := []) (by kernel_rfl) trivial) (sg := ⟨[.pure], []⟩) (A := zDU) (res := zAW) (W := fun x => zws x.1 x.2.1) (z := default)
def zHz : Cx ty := mkCx base 19 [(82, zjk)] [] [] [] [] []
def zrM (a : RowID) (b : RowID) : Wy0 (Int) := .bn (zcp a.Table b.Table) fun r1 => .i (r1 != 0) (.k r1) (.bn (zcp a.Seq b.Seq) fun r0 => .k r0)
def zmq (a : RowID) (b : RowID) : Bool × Int := (zrM a b).fin default
def zv2 (r : Int) : ARes ty := ⟨[.pure (.lit (.int .i64 r))], []⟩
def zy2 : AL base (RowID × RowID × Unit) := zf (zg (vAgg 25)) (zf (zg (vAgg 25)) aNil)
def zu4 : Ab.Spec ty := zk zy2 fun x => ((zmq x.1 x.2.1).1, zv2 (zmq x.1 x.2.1).2)
theorem zEs : Sound Tryz.prog base 146 zu4 :=
 zo (cx' := zHz) zH zm zy (zn ⟨zks, trivial⟩) Tryz.call146 Tryz.func146 (c := body Tryz.f146) (by kernel_rfl) (zh (l := []) (by kernel_rfl) trivial) (sg := ⟨[.pure], []⟩) (A := zy2) (res := zv2) (W := fun x => zrM x.1 x.2.1) (z := default)
abbrev ttTref05CompareAtom0 := Unit × Unit × Int × Unit
abbrev ttTref05CompareAtom1 := Atom × Atom × Unit
abbrev ttTref05CompareAtom2 := Int ⊕ (Atom × Atom)
def znS (zbc : List Weighted → List Weighted → Bool × Int) (zL : List Term → List Term → Bool × Int) (i : Int) (a : Atom) (b : Atom) : Wy ttTref05CompareAtom0 ttTref05CompareAtom1 ttTref05CompareAtom2 := .i (decide (i < Int.ofNat a.Args.length)) (.i (decide (i < Int.ofNat b.Args.length)) (.i (decide (0 ≤ i) && decide (i < Int.ofNat a.Args.length)) (.i (decide (0 ≤ i) && decide (i < Int.ofNat b.Args.length)) (.bn (zL (a.Args.getD i.toNat default) (b.Args.getD i.toNat default)) fun r0 => .i (r0 != 0) (.k (.inl (r0))) (.h ((), (), (IntKind.i64.wrap (i + 1)), ()) (a, b, ()))) .d) .d) (.k (.inr (a, b)))) (.k (.inr (a, b)))
def znM (zbc : List Weighted → List Weighted → Bool × Int) (zL : List Term → List Term → Bool × Int) (x : ttTref05CompareAtom0) (y : ttTref05CompareAtom1) : Wy ttTref05CompareAtom0 ttTref05CompareAtom1 ttTref05CompareAtom2 := znS zbc zL x.2.2.1 y.1 y.2.1
def znT (zbc : List Weighted → List Weighted → Bool × Int) (zL : List Term → List Term → Bool × Int) (n : Nat) (i : Int) (a : Atom) (b : Atom) : Bool × ttTref05CompareAtom2 := z7 (znM zbc zL) (.inl default) n ((), (), i, ()) (a, b, ())
def zsL (r : ttTref05CompareAtom2) : LTree ty := .ite (isL r) (.done .ret [.lit (.int .i64 (getL r))] []) (.done (.exit 0) [.ptr 384 0, .ptr 385 0] [.box (base.enc 48 (getR r).1) false, .box (base.enc 48 (getR r).2) false])
def zub : LL ty ttTref05CompareAtom0 := za (zg3 384 0) (za (zg3 385 0) (za (lInt .i64) zK))
def ztL : BL ty ttTref05CompareAtom1 := bBox (ziu (fun x => (⟨x.1, ⟨x.2.1, x.2.2.1⟩, x.2.2.2.1, x.2.2.2.2.1, x.2.2.2.2.2.1, x.2.2.2.2.2.2.1, ⟨x.2.2.2.2.2.2.2.1, x.2.2.2.2.2.2.2.2.1, x.2.2.2.2.2.2.2.2.2.1⟩⟩ : Atom)) (fun x => (x.Kind, x.Row.Table, x.Row.Seq, x.Args, x.Func, x.Items, x.Op, x.Bound.Kind, x.Bound.Int, x.Bound.Text, ())) (fun _ => rfl) (za (lInt .i64) (za (lInt .i64) (za (lInt .i64) (za (lSl 23) (za (lInt .i64) (za (lSl 52) (za (lInt .i64) (za (lInt .i64) (za (lInt .i64) (za lStr zK))))))))))) false (bBox (ziu (fun x => (⟨x.1, ⟨x.2.1, x.2.2.1⟩, x.2.2.2.1, x.2.2.2.2.1, x.2.2.2.2.2.1, x.2.2.2.2.2.2.1, ⟨x.2.2.2.2.2.2.2.1, x.2.2.2.2.2.2.2.2.1, x.2.2.2.2.2.2.2.2.2.1⟩⟩ : Atom)) (fun x => (x.Kind, x.Row.Table, x.Row.Seq, x.Args, x.Func, x.Items, x.Op, x.Bound.Kind, x.Bound.Int, x.Bound.Text, ())) (fun _ => rfl) (za (lInt .i64) (za (lInt .i64) (za (lInt .i64) (za (lSl 23) (za (lInt .i64) (za (lSl 52) (za (lInt .i64) (za (lInt .i64) (za (lInt .i64) (za lStr zK))))))))))) false (bNil))
def zsR (x : ttTref05CompareAtom0) (y : ttTref05CompareAtom1) : Nat := ((Int.toNat x.2.2.1 + 1) + y.1.Args.length + y.1.Items.length + y.2.1.Args.length + y.2.1.Items.length)
def zt5 (zbc : List Weighted → List Weighted → Bool × Int) (zL : List Term → List Term → Bool × Int) : Cx ty := mkCx base 96 [(35, (ziL zbc)), (39, (ziT zL)), (82, zjk), (83, zrC), (146, zu4)] [] [(8, [(2, .keep), (3, .keep), (7, .keep)])] [(8, 1, [(2, .keep), (3, .keep)]), (8, 0, [(4, .keep)])] [(8, spW zub ztL (znM zbc zL) (.inl default) zsL zsR)] []
theorem zDg (zbc : List Weighted → List Weighted → Bool × Int) (zL : List Term → List Term → Bool × Int) : zY (zt5 zbc zL) (lp (body Tryz.f104) 0) := zO (id := 8) (V := zub) (B := ztL) (W := znM zbc zL) (z := .inl default) (tr := zsL) (m := zsR)
def zos (zbc : List Weighted → List Weighted → Bool × Int) (zL : List Term → List Term → Bool × Int) (a : Atom) (b : Atom) : Wy0 (Int) := .bn (zcp a.Kind b.Kind) fun r9 => .i (r9 != 0) (.k r9) (.bn (zmq a.Row b.Row) fun r8 => .i (r8 != 0) (.k r8) (.bn (znT zbc zL ((Int.toNat 0 + 1) + (Atom.mk a.Kind a.Row a.Args a.Func a.Items a.Op a.Bound).Args.length + (Atom.mk a.Kind a.Row a.Args a.Func a.Items a.Op a.Bound).Items.length + (Atom.mk b.Kind b.Row b.Args b.Func b.Items b.Op b.Bound).Args.length + (Atom.mk b.Kind b.Row b.Args b.Func b.Items b.Op b.Bound).Items.length) 0 (Atom.mk a.Kind a.Row a.Args a.Func a.Items a.Op a.Bound) (Atom.mk b.Kind b.Row b.Args b.Func b.Items b.Op b.Bound)) fun r7 => .i (isL r7) (.k (getL r7)) (.bn (zcp (Int.ofNat (getR r7).1.Args.length) (Int.ofNat (getR r7).2.Args.length)) fun r6 => .i (r6 != 0) (.k r6) (.bn (zcp (getR r7).1.Func (getR r7).2.Func) fun r5 => .i (r5 != 0) (.k r5) (.bn (zbc (getR r7).1.Items (getR r7).2.Items) fun r4 => .i (r4 != 0) (.k r4) (.bn (zcp (getR r7).1.Op (getR r7).2.Op) fun r3 => .i (r3 != 0) (.k r3) (.bn (zlc (getR r7).1.Bound (getR r7).2.Bound) fun r2 => .k r2)))))))
def zj0 (zbc : List Weighted → List Weighted → Bool × Int) (zL : List Term → List Term → Bool × Int) (a : Atom) (b : Atom) : Bool × Int := (zos zbc zL a b).fin default
theorem zA4 (zbc : List Weighted → List Weighted → Bool × Int) (zL : List Term → List Term → Bool × Int) (zEN : Sound Tryz.prog base 35 (ziL zbc)) (ztn : Sound Tryz.prog base 39 (ziT zL)) : Sound Tryz.prog base 104 (zjW (zj0 zbc zL)) :=
 zo (cx' := (zt5 zbc zL)) zH zm zy (zn ⟨zEN, ztn, zks, zw9, zEs, trivial⟩) Tryz.call104 Tryz.func104 (c := body Tryz.f104) (by kernel_rfl) (zh (l := [lp (body Tryz.f104) 0]) (by kernel_rfl) ⟨zDg zbc zL, trivial⟩) (sg := ⟨[.pure], []⟩) (A := zw0) (res := zuA) (W := fun x => zos zbc zL x.1 x.2.1) (z := default)
abbrev ttTref05CompareFactors0 := List Factor × List Factor × Int × Unit
abbrev ttTref05CompareFactors1 := Int ⊕ (List Factor × List Factor)
def zra (zbe : Atom → Atom → Bool × Int) (a : List Factor) (b : List Factor) (i : Int) : Wy ttTref05CompareFactors0 (Unit) ttTref05CompareFactors1 := .i (decide (i < Int.ofNat a.length)) (.i (decide (i < Int.ofNat b.length)) (.i (decide (0 ≤ i) && decide (i < Int.ofNat a.length)) (.i (decide (0 ≤ i) && decide (i < Int.ofNat b.length)) (.bn (zbe (Atom.mk (a.getD i.toNat default).Atom.Kind (a.getD i.toNat default).Atom.Row (a.getD i.toNat default).Atom.Args (a.getD i.toNat default).Atom.Func (a.getD i.toNat default).Atom.Items (a.getD i.toNat default).Atom.Op (a.getD i.toNat default).Atom.Bound) (Atom.mk (b.getD i.toNat default).Atom.Kind (b.getD i.toNat default).Atom.Row (b.getD i.toNat default).Atom.Args (b.getD i.toNat default).Atom.Func (b.getD i.toNat default).Atom.Items (b.getD i.toNat default).Atom.Op (b.getD i.toNat default).Atom.Bound)) fun r1 => .i (r1 != 0) (.k (.inl (r1))) (.i (decide (0 ≤ i) && decide (i < Int.ofNat a.length)) (.i (decide (0 ≤ i) && decide (i < Int.ofNat b.length)) (.bn (zcp (a.getD i.toNat default).Exp (b.getD i.toNat default).Exp) fun r0 => .i (r0 != 0) (.k (.inl (r0))) (.h (a, b, (IntKind.i64.wrap (i + 1)), ()) ())) .d) .d)) .d) .d) (.k (.inr (a, b)))) (.k (.inr (a, b)))
def zfU (zbe : Atom → Atom → Bool × Int) (x : ttTref05CompareFactors0) (y : Unit) : Wy ttTref05CompareFactors0 (Unit) ttTref05CompareFactors1 := zra zbe x.1 x.2.1 x.2.2.1
def zq1 (zbe : Atom → Atom → Bool × Int) (n : Nat) (a : List Factor) (b : List Factor) (i : Int) : Bool × ttTref05CompareFactors1 := z7 (zfU zbe) (.inl default) n (a, b, i, ()) ()
def zqg (r : ttTref05CompareFactors1) : LTree ty := .ite (isL r) (.done .ret [.lit (.int .i64 (getL r))] []) (.done (.exit 0) [.sl 50 (getR r).1, .sl 50 (getR r).2] [])
def zqM : LL ty ttTref05CompareFactors0 := za (lSl 50) (za (lSl 50) (za (lInt .i64) zK))
def zrb : BL ty (Unit) := bNil
def zqc (x : ttTref05CompareFactors0) (y : Unit) : Nat := (x.1.length + x.2.1.length + Int.toNat x.2.2.1 + 1)
def zqV (zbe : Atom → Atom → Bool × Int) : Cx ty := mkCx base 53 [(82, zjk), (104, (zjW zbe))] [] [(2, [(0, .keep), (1, .keep), (5, .keep)])] [(2, 1, [(0, .keep), (1, .keep)]), (2, 0, [(4, .keep)])] [(2, spW zqM zrb (zfU zbe) (.inl default) zqg zqc)] []
theorem zzK (zbe : Atom → Atom → Bool × Int) : zY (zqV zbe) (lp (body Tryz.f89) 0) := zO (id := 2) (V := zqM) (B := zrb) (W := zfU zbe) (z := .inl default) (tr := zqg) (m := zqc)
def zmt (zbe : Atom → Atom → Bool × Int) (a : List Factor) (b : List Factor) : Wy0 (Int) := .bn (zq1 zbe (a.length + b.length + Int.toNat 0 + 1) a b 0) fun r5 => .i (isL r5) (.k (getL r5)) (.bn (zcp (Int.ofNat (getR r5).1.length) (Int.ofNat (getR r5).2.length)) fun r4 => .k r4)
def zhR (zbe : Atom → Atom → Bool × Int) (a : List Factor) (b : List Factor) : Bool × Int := (zmt zbe a b).fin default
theorem zxU (zbe : Atom → Atom → Bool × Int) (zFL : Sound Tryz.prog base 104 (zjW zbe)) : Sound Tryz.prog base 89 (zhY (zhR zbe)) :=
 zo (cx' := (zqV zbe)) zH zm zy (zn ⟨zks, zFL, trivial⟩) Tryz.call89 Tryz.func89 (c := body Tryz.f89) (by kernel_rfl) (zh (l := [lp (body Tryz.f89) 0]) (by kernel_rfl) ⟨zzK zbe, trivial⟩) (sg := ⟨[.pure], []⟩) (A := ztJ) (res := zr4) (W := fun x => zmt zbe x.1 x.2.1) (z := default)
abbrev ttTref05CompareItems0 := List Weighted × List Weighted × Int × Unit
abbrev ttTref05CompareItems1 := Int ⊕ (List Weighted × List Weighted)
def zDj (zL : List Term → List Term → Bool × Int) (a : List Weighted) (b : List Weighted) (i : Int) : Wy ttTref05CompareItems0 (Unit) ttTref05CompareItems1 := .i (decide (i < Int.ofNat a.length)) (.i (decide (i < Int.ofNat b.length)) (.i (decide (0 ≤ i) && decide (i < Int.ofNat a.length)) (.i (decide (0 ≤ i) && decide (i < Int.ofNat b.length)) (.bn (zlc (a.getD i.toNat default).Value (b.getD i.toNat default).Value) fun r1 => .i (r1 != 0) (.k (.inl (r1))) (.i (decide (0 ≤ i) && decide (i < Int.ofNat a.length)) (.i (decide (0 ≤ i) && decide (i < Int.ofNat b.length)) (.bn (zL (a.getD i.toNat default).Ann (b.getD i.toNat default).Ann) fun r0 => .i (r0 != 0) (.k (.inl (r0))) (.h (a, b, (IntKind.i64.wrap (i + 1)), ()) ())) .d) .d)) .d) .d) (.k (.inr (a, b)))) (.k (.inr (a, b)))
def zm7 (zL : List Term → List Term → Bool × Int) (x : ttTref05CompareItems0) (y : Unit) : Wy ttTref05CompareItems0 (Unit) ttTref05CompareItems1 := zDj zL x.1 x.2.1 x.2.2.1
def zDc (zL : List Term → List Term → Bool × Int) (n : Nat) (a : List Weighted) (b : List Weighted) (i : Int) : Bool × ttTref05CompareItems1 := z7 (zm7 zL) (.inl default) n (a, b, i, ()) ()
def zrv (r : ttTref05CompareItems1) : LTree ty := .ite (isL r) (.done .ret [.lit (.int .i64 (getL r))] []) (.done (.exit 0) [.sl 52 (getR r).1, .sl 52 (getR r).2] [])
def zs1 : LL ty ttTref05CompareItems0 := za (lSl 52) (za (lSl 52) (za (lInt .i64) zK))
def zs2 : BL ty (Unit) := bNil
def zr5 (x : ttTref05CompareItems0) (y : Unit) : Nat := (x.1.length + x.2.1.length + Int.toNat x.2.2.1 + 1)
def zsH (zL : List Term → List Term → Bool × Int) : Cx ty := mkCx base 53 [(39, (ziT zL)), (82, zjk), (83, zrC)] [] [(2, [(0, .keep), (1, .keep), (5, .keep)])] [(2, 1, [(0, .keep), (1, .keep)]), (2, 0, [(4, .keep)])] [(2, spW zs1 zs2 (zm7 zL) (.inl default) zrv zr5)] []
theorem zCG (zL : List Term → List Term → Bool × Int) : zY (zsH zL) (lp (body Tryz.f35) 0) := zO (id := 2) (V := zs1) (B := zs2) (W := zm7 zL) (z := .inl default) (tr := zrv) (m := zr5)
def ztR (zL : List Term → List Term → Bool × Int) (a : List Weighted) (b : List Weighted) : Wy0 (Int) := .bn (zDc zL (a.length + b.length + Int.toNat 0 + 1) a b 0) fun r5 => .i (isL r5) (.k (getL r5)) (.bn (zcp (Int.ofNat (getR r5).1.length) (Int.ofNat (getR r5).2.length)) fun r4 => .k r4)
def zlM (zL : List Term → List Term → Bool × Int) (a : List Weighted) (b : List Weighted) : Bool × Int := (ztR zL a b).fin default
theorem zzR (zL : List Term → List Term → Bool × Int) (ztn : Sound Tryz.prog base 39 (ziT zL)) : Sound Tryz.prog base 35 (ziL (zlM zL)) :=
 zo (cx' := (zsH zL)) zH zm zy (zn ⟨ztn, zks, zw9, trivial⟩) Tryz.call35 Tryz.func35 (c := body Tryz.f35) (by kernel_rfl) (zh (l := [lp (body Tryz.f35) 0]) (by kernel_rfl) ⟨zCG zL, trivial⟩) (sg := ⟨[.pure], []⟩) (A := zvy) (res := ztu) (W := fun x => ztR zL x.1 x.2.1) (z := default)
def zje : Nat → (List Term → List Term → Bool × Int) × (List Factor → List Factor → Bool × Int) × (Atom → Atom → Bool × Int) × (List Weighted → List Weighted → Bool × Int)
 | 0 => (fun _ _ => (false, default), fun _ _ => (false, default), fun _ _ => (false, default), fun _ _ => (false, default))
 | n + 1 => (zqX ((zje n).2.1), zhR ((zje n).2.2.1), zj0 ((zje n).2.2.2) ((zje n).1), zlM ((zje n).1))
def zkU (n : Nat) : List Term → List Term → Bool × Int := (zje n).1
def zhX (n : Nat) : List Factor → List Factor → Bool × Int := (zje n).2.1
def zjP (n : Nat) : Atom → Atom → Bool × Int := (zje n).2.2.1
def zja (n : Nat) : List Weighted → List Weighted → Bool × Int := (zje n).2.2.2
theorem zH9 (n : Nat) : zkU (n + 1) = zqX (zhX n) := rfl
theorem zBa (n : Nat) : zhX (n + 1) = zhR (zjP n) := rfl
theorem zEt (n : Nat) : zjP (n + 1) = zj0 (zja n) (zkU n) := rfl
theorem zC7 (n : Nat) : zja (n + 1) = zlM (zkU n) := rfl
theorem zoq : ∀ n, Sound Tryz.prog base 39 (ziT (zkU n)) ∧ Sound Tryz.prog base 89 (zhY (zhX n)) ∧ Sound Tryz.prog base 104 (zjW (zjP n)) ∧ Sound Tryz.prog base 35 (ziL (zja n))
 | 0 => ⟨zbj Tryz.call39 (fun _ => rfl), zbj Tryz.call89 (fun _ => rfl), zbj Tryz.call104 (fun _ => rfl), zbj Tryz.call35 (fun _ => rfl)⟩
 | n + 1 => by
  have ih := zoq n
  exact ⟨zFh _ (ih.2.1), zxU _ (ih.2.2.1), zA4 _ _ (ih.2.2.2) (ih.1), zzR _ (ih.1)⟩
def zzN : List Term → List Term → Bool × Int := zkU 1000
def ref05_Compare_spec : Ab.Spec ty := ziT zzN
theorem zHM : Sound Tryz.prog base 39 ref05_Compare_spec := (zoq 1000).1
def zjb : List Factor → List Factor → Bool × Int := zhX 1000
def ref05_CompareFactors_spec : Ab.Spec ty := zhY zjb
theorem zql : Sound Tryz.prog base 89 ref05_CompareFactors_spec := (zoq 1000).2.1
def zjl : Atom → Atom → Bool × Int := zjP 1000
def ref05_CompareAtom_spec : Ab.Spec ty := zjW zjl
theorem zsT : Sound Tryz.prog base 104 ref05_CompareAtom_spec := (zoq 1000).2.2.1
def zrq : List Weighted → List Weighted → Bool × Int := zja 1000
def ref05_CompareItems_spec : Ab.Spec ty := ziL zrq
theorem zCf : Sound Tryz.prog base 35 ref05_CompareItems_spec := (zoq 1000).2.2.2
def zNS : Cx ty := mkCx base 9 [(39, ref05_Compare_spec)] [] [] [] [] []
def zCN (a : List Term) (b : List Term) : Wy0 (Bool) := .bn (zzN a b) fun r0 => .k (r0 == 0)
def zh7 (a : List Term) (b : List Term) : Bool × Bool := (zCN a b).fin default
def zEW (r : Bool) : ARes ty := ⟨[.pure (.lit (.bool r))], []⟩
def zIq : AL base (List Term × List Term × Unit) := zf (zg (vSl 42)) (zf (zg (vSl 42)) aNil)
def znw : Ab.Spec ty := zk zIq fun x => ((zh7 x.1 x.2.1).1, zEW (zh7 x.1 x.2.1).2)
theorem zpI : Sound Tryz.prog base 24 znw :=
 zo (cx' := zNS) zH zm zy (zn ⟨zHM, trivial⟩) Tryz.call24 Tryz.func24 (c := body Tryz.f24) (by kernel_rfl) (zh (l := []) (by kernel_rfl) trivial) (sg := ⟨[.pure], []⟩) (A := zIq) (res := zEW) (W := fun x => zCN x.1 x.2.1) (z := default)
def zNU : Cx ty := mkCx base 26 [(24, znw)] [] [] [] [] []
def zCR (a : List Term) (e : Int) (b : List Term) (f : Int) : Wy0 (Bool) := .i (e == f) (.bn (zh7 a b) fun r0 => .i (r0) (.i (e == 0) (.k true) (.k (Int.ofNat a.length == 0))) (.k false)) (.k false)
def zkh (a : List Term) (e : Int) (b : List Term) (f : Int) : Bool × Bool := (zCR a e b f).fin default
def zE5 (r : Bool) : ARes ty := ⟨[.pure (.lit (.bool r))], []⟩
def zI4 : AL base (List Term × Int × List Term × Int × Unit) := zf (zg (vSl 42)) (zf (zg (vInt .i64)) (zf (zg (vSl 42)) (zf (zg (vInt .i64)) aNil)))
def zD1 : Ab.Spec ty := zk zI4 fun x => ((zkh x.1 x.2.1 x.2.2.1 x.2.2.2.1).1, zE5 (zkh x.1 x.2.1 x.2.2.1 x.2.2.2.1).2)
theorem zKx : Sound Tryz.prog base 15 zD1 :=
 zo (cx' := zNU) zH zm zy (zn ⟨zpI, trivial⟩) Tryz.call15 Tryz.func15 (c := body Tryz.f15) (by kernel_rfl) (zh (l := []) (by kernel_rfl) trivial) (sg := ⟨[.pure], []⟩) (A := zI4) (res := zE5) (W := fun x => zCR x.1 x.2.1 x.2.2.1 x.2.2.2.1) (z := default)
end Go.Proofs.YtnolcogncjijpaaGreatDoor
/- What lies inside lists of terms and factors: fuel for loops. -/
namespace Go.Proofs.YtnolcogncjijpaaGreatDoor
def szFs : List Factor → Nat
 | [] => 0
 | f :: r => f.Exp.toNat + f.Atom.Args.length + f.Atom.Items.length + 1 + szFs r
def szTs : List Term → Nat
 | [] => 0
 | t :: r => szFs t.Factors + 1 + szTs r
end Go.Proofs.YtnolcogncjijpaaGreatDoor
namespace Go.Proofs.YtnolcogncjijpaaGreatDoor
open Go Go.Ab
def zDL (r : Bool) : ARes ty := ⟨[.pure (.lit (.bool r))], []⟩
def zGS : AL base (List Term × Unit) := zf (zg (vSl 42)) aNil
def zqe (F : List Term → Bool × Bool) : Ab.Spec ty := zk zGS fun x => ((F x.1).1, zDL (F x.1).2)
def zxj (r : Bool) : ARes ty := ⟨[.pure (.lit (.bool r))], []⟩
def zAi : AL base (Atom × Unit) := zf (zg (vAgg 48)) aNil
def zoe (F : Atom → Bool × Bool) : Ab.Spec ty := zk zAi fun x => ((F x.1).1, zxj (F x.1).2)
end Go.Proofs.YtnolcogncjijpaaGreatDoor
end
