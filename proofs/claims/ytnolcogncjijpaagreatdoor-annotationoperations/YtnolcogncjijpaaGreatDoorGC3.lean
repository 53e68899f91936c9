/- Texts of this claim, joined (the program, its functions in plain words, and what they compute). -/
import Derived.Test.YtnolcogncjijpaaGreatDoorGC1
import Derived.Test.YtnolcogncjijpaaGreatDoorGC2
import Derived.Test.YtnolcogncjijpaaGreatDoorGA2
import Derived.Test.YtnolcogncjijpaaGreatDoorGB1
set_option autoImplicit false
set_option linter.unusedVariables false
set_option linter.unusedSectionVars false
set_option linter.unusedSimpArgs false
set_option maxRecDepth 1000000
set_option maxHeartbeats 0
noncomputable section
namespace Go.Proofs.YtnolcogncjijpaaGreatDoor
open Go Go.Ab
def zAK (r : Int) : ARes ty := ⟨[.pure (.lit (.int .i64 r))], []⟩
def zDG : AL base (List Term × Unit) := zf (zg (vSl 42)) aNil
def znu (F : List Term → Bool × Int) : Ab.Spec ty := zk zDG fun x => ((F x.1).1, zAK (F x.1).2)
abbrev ttTref05Nesting0 := List Term × Int × Int × Int × Unit × Int × Int × Unit
abbrev ttTref05Nesting1 := List Term × Int × Int × Int × Int × Atom
abbrev ttTref05Nesting2 := List Term × Int × Int × Int × Int
abbrev ttTref05Nesting3 := List Term × Int × Int × Int × Unit
abbrev ttTref05Nesting4 := List Term × Int × Int
abbrev ttTref05Nesting5 := List Term × Int × Int × Unit
def zjO (zt : List Term → Bool × Int) (a : List Term) (most : Int) (i : Int) (k : Int) (n_ : Int) (j : Int) (x_ : Atom) : Wy ttTref05Nesting0 (Atom × Unit) ttTref05Nesting1 := .i (decide (j < Int.ofNat x_.Args.length)) (.i (decide (0 ≤ j) && decide (j < Int.ofNat x_.Args.length)) (.bn (zt (x_.Args.getD j.toNat default)) fun r0 => .h (a, most, i, k, (), (if IntKind.i64.wrap (1 + r0) > n_ then IntKind.i64.wrap (1 + r0) else n_), (IntKind.i64.wrap (j + 1)), ()) (x_, ())) .d) (.k (a, most, i, k, n_, x_))
def zmL (zt : List Term → Bool × Int) (x : ttTref05Nesting0) (y : Atom × Unit) : Wy ttTref05Nesting0 (Atom × Unit) ttTref05Nesting1 := zjO zt x.1 x.2.1 x.2.2.1 x.2.2.2.1 x.2.2.2.2.2.1 x.2.2.2.2.2.2.1 y.1
def zqG (zt : List Term → Bool × Int) (n : Nat) (a : List Term) (most : Int) (i : Int) (k : Int) (n_ : Int) (j : Int) (x_ : Atom) : Bool × ttTref05Nesting1 := z7 (zmL zt) default n (a, most, i, k, (), n_, j, ()) (x_, ())
def zwi (r : ttTref05Nesting1) : LTree ty := .done (.exit 4) [.sl 42 r.1, .lit (.int .i64 r.2.1), .lit (.int .i64 r.2.2.1), .lit (.int .i64 r.2.2.2.1), .ptr 300 0, .lit (.int .i64 r.2.2.2.2.1)] [.box (base.enc 48 r.2.2.2.2.2) false]
def zxi : LL ty ttTref05Nesting0 := za (lSl 42) (za (lInt .i64) (za (lInt .i64) (za (lInt .i64) (za (zg3 300 0) (za (lInt .i64) (za (lInt .i64) zK))))))
def zw5 : BL ty (Atom × Unit) := bBox (ziu (fun x => (⟨x.1, ⟨x.2.1, x.2.2.1⟩, x.2.2.2.1, x.2.2.2.2.1, x.2.2.2.2.2.1, x.2.2.2.2.2.2.1, ⟨x.2.2.2.2.2.2.2.1, x.2.2.2.2.2.2.2.2.1, x.2.2.2.2.2.2.2.2.2.1⟩⟩ : Atom)) (fun x => (x.Kind, x.Row.Table, x.Row.Seq, x.Args, x.Func, x.Items, x.Op, x.Bound.Kind, x.Bound.Int, x.Bound.Text, ())) (fun _ => rfl) (za (lInt .i64) (za (lInt .i64) (za (lInt .i64) (za (lSl 23) (za (lInt .i64) (za (lSl 52) (za (lInt .i64) (za (lInt .i64) (za (lInt .i64) (za lStr zK))))))))))) false (bNil)
def zjQ (zt : List Term → Bool × Int) (a : List Term) (most : Int) (i : Int) (k : Int) (n_ : Int) (j : Int) (x_ : Atom) : Wy ttTref05Nesting0 (Atom × Unit) ttTref05Nesting2 := .i (decide (j < Int.ofNat x_.Items.length)) (.i (decide (0 ≤ j) && decide (j < Int.ofNat x_.Items.length)) (.bn (zt (x_.Items.getD j.toNat default).Ann) fun r2 => .h (a, most, i, k, (), (if IntKind.i64.wrap (1 + r2) > n_ then IntKind.i64.wrap (1 + r2) else n_), (IntKind.i64.wrap (j + 1)), ()) (x_, ())) .d) (.k (a, most, i, k, n_))
def zmR (zt : List Term → Bool × Int) (x : ttTref05Nesting0) (y : Atom × Unit) : Wy ttTref05Nesting0 (Atom × Unit) ttTref05Nesting2 := zjQ zt x.1 x.2.1 x.2.2.1 x.2.2.2.1 x.2.2.2.2.2.1 x.2.2.2.2.2.2.1 y.1
def zwU (zt : List Term → Bool × Int) (n : Nat) (a : List Term) (most : Int) (i : Int) (k : Int) (n_ : Int) (j : Int) (x_ : Atom) : Bool × ttTref05Nesting2 := z7 (zmR zt) default n (a, most, i, k, (), n_, j, ()) (x_, ())
def zwA (r : ttTref05Nesting2) : LTree ty := .done (.exit 6) [.sl 42 r.1, .lit (.int .i64 r.2.1), .lit (.int .i64 r.2.2.1), .lit (.int .i64 r.2.2.2.1), .lit (.int .i64 r.2.2.2.2)] []
def zxo : LL ty ttTref05Nesting0 := za (lSl 42) (za (lInt .i64) (za (lInt .i64) (za (lInt .i64) (za (zg3 300 0) (za (lInt .i64) (za (lInt .i64) zK))))))
def zxl : BL ty (Atom × Unit) := bBox (ziu (fun x => (⟨x.1, ⟨x.2.1, x.2.2.1⟩, x.2.2.2.1, x.2.2.2.2.1, x.2.2.2.2.2.1, x.2.2.2.2.2.2.1, ⟨x.2.2.2.2.2.2.2.1, x.2.2.2.2.2.2.2.2.1, x.2.2.2.2.2.2.2.2.2.1⟩⟩ : Atom)) (fun x => (x.Kind, x.Row.Table, x.Row.Seq, x.Args, x.Func, x.Items, x.Op, x.Bound.Kind, x.Bound.Int, x.Bound.Text, ())) (fun _ => rfl) (za (lInt .i64) (za (lInt .i64) (za (lInt .i64) (za (lSl 23) (za (lInt .i64) (za (lSl 52) (za (lInt .i64) (za (lInt .i64) (za (lInt .i64) (za lStr zK))))))))))) false (bNil)
def zkC (zt : List Term → Bool × Int) (a : List Term) (most : Int) (i : Int) (k : Int) : Wy ttTref05Nesting3 (Unit) ttTref05Nesting4 := .i (decide (0 ≤ i) && decide (i < Int.ofNat a.length)) (.i (decide (k < Int.ofNat (a.getD i.toNat default).Factors.length)) (.i (decide (0 ≤ i) && decide (i < Int.ofNat a.length)) (.i (decide (0 ≤ k) && decide (k < Int.ofNat (a.getD i.toNat default).Factors.length)) (.i (((a.getD i.toNat default).Factors.getD k.toNat default).Atom.Kind == 0) (.h (a, most, i, (IntKind.i64.wrap (k + 1)), ()) ()) (.bn (zqG zt (((a.length + most.toNat + i.toNat + k.toNat + Int.toNat 1 + Int.toNat 0 + 1) + (Atom.mk ((a.getD i.toNat default).Factors.getD k.toNat default).Atom.Kind ((a.getD i.toNat default).Factors.getD k.toNat default).Atom.Row ((a.getD i.toNat default).Factors.getD k.toNat default).Atom.Args ((a.getD i.toNat default).Factors.getD k.toNat default).Atom.Func ((a.getD i.toNat default).Factors.getD k.toNat default).Atom.Items ((a.getD i.toNat default).Factors.getD k.toNat default).Atom.Op ((a.getD i.toNat default).Factors.getD k.toNat default).Atom.Bound).Args.length + (Atom.mk ((a.getD i.toNat default).Factors.getD k.toNat default).Atom.Kind ((a.getD i.toNat default).Factors.getD k.toNat default).Atom.Row ((a.getD i.toNat default).Factors.getD k.toNat default).Atom.Args ((a.getD i.toNat default).Factors.getD k.toNat default).Atom.Func ((a.getD i.toNat default).Factors.getD k.toNat default).Atom.Items ((a.getD i.toNat default).Factors.getD k.toNat default).Atom.Op ((a.getD i.toNat default).Factors.getD k.toNat default).Atom.Bound).Items.length) + szTs a) a most i k 1 0 (Atom.mk ((a.getD i.toNat default).Factors.getD k.toNat default).Atom.Kind ((a.getD i.toNat default).Factors.getD k.toNat default).Atom.Row ((a.getD i.toNat default).Factors.getD k.toNat default).Atom.Args ((a.getD i.toNat default).Factors.getD k.toNat default).Atom.Func ((a.getD i.toNat default).Factors.getD k.toNat default).Atom.Items ((a.getD i.toNat default).Factors.getD k.toNat default).Atom.Op ((a.getD i.toNat default).Factors.getD k.toNat default).Atom.Bound)) fun r5 => .bn (zwU zt (((r5.1.length + r5.2.1.toNat + r5.2.2.1.toNat + r5.2.2.2.1.toNat + r5.2.2.2.2.1.toNat + Int.toNat 0 + 1) + (Atom.mk r5.2.2.2.2.2.Kind r5.2.2.2.2.2.Row r5.2.2.2.2.2.Args r5.2.2.2.2.2.Func r5.2.2.2.2.2.Items r5.2.2.2.2.2.Op r5.2.2.2.2.2.Bound).Args.length + (Atom.mk r5.2.2.2.2.2.Kind r5.2.2.2.2.2.Row r5.2.2.2.2.2.Args r5.2.2.2.2.2.Func r5.2.2.2.2.2.Items r5.2.2.2.2.2.Op r5.2.2.2.2.2.Bound).Items.length) + szTs r5.1) r5.1 r5.2.1 r5.2.2.1 r5.2.2.2.1 r5.2.2.2.2.1 0 (Atom.mk r5.2.2.2.2.2.Kind r5.2.2.2.2.2.Row r5.2.2.2.2.2.Args r5.2.2.2.2.2.Func r5.2.2.2.2.2.Items r5.2.2.2.2.2.Op r5.2.2.2.2.2.Bound)) fun r4 => .h ((r4.1), (if r4.2.2.2.2 > r4.2.1 then r4.2.2.2.2 else r4.2.1), (r4.2.2.1), (IntKind.i64.wrap (r4.2.2.2.1 + 1)), ()) ())) .d) .d) (.k (a, most, i))) .d
def znF (zt : List Term → Bool × Int) (x : ttTref05Nesting3) (y : Unit) : Wy ttTref05Nesting3 (Unit) ttTref05Nesting4 := zkC zt x.1 x.2.1 x.2.2.1 x.2.2.2.1
def zyT (zt : List Term → Bool × Int) (n : Nat) (a : List Term) (most : Int) (i : Int) (k : Int) : Bool × ttTref05Nesting4 := z7 (znF zt) default n (a, most, i, k, ()) ()
def zwQ (r : ttTref05Nesting4) : LTree ty := .done (.exit 2) [.sl 42 r.1, .lit (.int .i64 r.2.1), .lit (.int .i64 r.2.2)] []
def zyr : LL ty ttTref05Nesting3 := za (lSl 42) (za (lInt .i64) (za (lInt .i64) (za (lInt .i64) zK)))
def zzr : BL ty (Unit) := bNil
def zkx (zt : List Term → Bool × Int) (a : List Term) (most : Int) (i : Int) : Wy ttTref05Nesting5 (Unit) (Int) := .i (decide (i < Int.ofNat a.length)) (.bn (zyT zt ((a.length + most.toNat + i.toNat + Int.toNat 0 + 1) + szTs a) a most i 0) fun r8 => .h ((r8.1), (r8.2.1), (IntKind.i64.wrap (r8.2.2 + 1)), ()) ()) (.k most)
def znD (zt : List Term → Bool × Int) (x : ttTref05Nesting5) (y : Unit) : Wy ttTref05Nesting5 (Unit) (Int) := zkx zt x.1 x.2.1 x.2.2.1
def zza (zt : List Term → Bool × Int) (n : Nat) (a : List Term) (most : Int) (i : Int) : Bool × Int := z7 (znD zt) default n (a, most, i, ()) ()
def zxa (r : Int) : LTree ty := .done (.exit 0) [.lit (.int .i64 r)] []
def zym : LL ty ttTref05Nesting5 := za (lSl 42) (za (lInt .i64) (za (lInt .i64) zK))
def zyf : BL ty (Unit) := bNil
def zvV (x : ttTref05Nesting0) (y : Atom × Unit) : Nat := (((x.1.length + Int.toNat x.2.1 + Int.toNat x.2.2.1 + Int.toNat x.2.2.2.1 + Int.toNat x.2.2.2.2.2.1 + Int.toNat x.2.2.2.2.2.2.1 + 1) + y.1.Args.length + y.1.Items.length) + szTs x.1)
def zvD (x : ttTref05Nesting0) (y : Atom × Unit) : Nat := (((x.1.length + Int.toNat x.2.1 + Int.toNat x.2.2.1 + Int.toNat x.2.2.2.1 + Int.toNat x.2.2.2.2.2.1 + Int.toNat x.2.2.2.2.2.2.1 + 1) + y.1.Args.length + y.1.Items.length) + szTs x.1)
def zxr (x : ttTref05Nesting3) (y : Unit) : Nat := ((x.1.length + Int.toNat x.2.1 + Int.toNat x.2.2.1 + Int.toNat x.2.2.2.1 + 1) + szTs x.1)
def zxm (x : ttTref05Nesting5) (y : Unit) : Nat := ((x.1.length + Int.toNat x.2.1 + Int.toNat x.2.2.1 + 1) + szTs x.1)
def zkt (zt : List Term → Bool × Int) : Cx ty := mkCx base 75 [(147, (znu zt))] [] [(3, [(0, .keep), (3, .keep), (4, .keep)]), (6, [(0, .keep), (3, .keep), (4, .keep), (5, .keep)]), (12, [(0, .keep), (3, .keep), (4, .keep), (5, .keep), (6, .keep), (7, .keep), (8, .keep)]), (16, [(0, .keep), (3, .keep), (4, .keep), (5, .keep), (6, .keep), (7, .keep), (9, .keep)])] [(3, 1, [(3, .keep)]), (6, 3, [(0, .keep), (3, .keep), (4, .keep)]), (12, 5, [(0, .keep), (3, .keep), (4, .keep), (5, .keep), (6, .keep), (7, .keep)]), (16, 7, [(0, .keep), (3, .keep), (4, .keep), (5, .keep), (7, .keep)])] [(12, spW zxi zw5 (zmL zt) default zwi zvV), (16, spW zxo zxl (zmR zt) default zwA zvD), (6, spW zyr zzr (znF zt) default zwQ zxr), (3, spW zym zyf (znD zt) default zxa zxm)] []
theorem zGK (zt : List Term → Bool × Int) : zY (zkt zt) (lp (body Tryz.f147) 2) := zO (id := 12) (V := zxi) (B := zw5) (W := zmL zt) (z := default) (tr := zwi) (m := zvV)
theorem zGy (zt : List Term → Bool × Int) : zY (zkt zt) (lp (body Tryz.f147) 3) := zO (id := 16) (V := zxo) (B := zxl) (W := zmR zt) (z := default) (tr := zwA) (m := zvD)
theorem zHV (zt : List Term → Bool × Int) : zY (zkt zt) (lp (body Tryz.f147) 1) := zO (id := 6) (V := zyr) (B := zzr) (W := znF zt) (z := default) (tr := zwQ) (m := zxr)
theorem zHx (zt : List Term → Bool × Int) : zY (zkt zt) (lp (body Tryz.f147) 0) := zO (id := 3) (V := zym) (B := zyf) (W := znD zt) (z := default) (tr := zxa) (m := zxm)
def ztj (zt : List Term → Bool × Int) (a : List Term) : Wy0 (Int) := .bn (zza zt ((a.length + Int.toNat 0 + Int.toNat 0 + 1) + szTs a) a 0 0) fun r10 => .k r10
def zqL (zt : List Term → Bool × Int) (a : List Term) : Bool × Int := (ztj zt a).fin default
theorem zFQ (zt : List Term → Bool × Int) (zJL : Sound Tryz.prog base 147 (znu zt)) : Sound Tryz.prog base 147 (znu (zqL zt)) :=
 zo (cx' := (zkt zt)) zH zm zy (zn ⟨zJL, trivial⟩) Tryz.call147 Tryz.func147 (c := body Tryz.f147) (by kernel_rfl) (zh (l := [lp (body Tryz.f147) 0, lp (body Tryz.f147) 1, lp (body Tryz.f147) 2, lp (body Tryz.f147) 3]) (by kernel_rfl) ⟨zHx zt, zHV zt, zGK zt, zGy zt, trivial⟩) (sg := ⟨[.pure], []⟩) (A := zDG) (res := zAK) (W := fun x => ztj zt x.1) (z := default)
def zIs : Nat → (List Term → Bool × Int)
 | 0 => fun _ => (false, default)
 | n + 1 => zqL (zIs n)
def zi4 (n : Nat) : List Term → Bool × Int := zIs n
theorem zI0 (n : Nat) : zi4 (n + 1) = zqL (zi4 n) := rfl
theorem zFU : ∀ n, Sound Tryz.prog base 147 (znu (zi4 n))
 | 0 => zbj Tryz.call147 (fun _ => rfl)
 | n + 1 => by
  have ih := zFU n
  exact zFQ _ (ih)
def zz4 : List Term → Bool × Int := zi4 1000
def ref05_Nesting_spec : Ab.Spec ty := znu zz4
theorem zHK : Sound Tryz.prog base 147 ref05_Nesting_spec := (zFU 1000)
def zFj (r : Int) : ARes ty := ⟨[.pure (.lit (.int .i64 r))], []⟩
def zI1 : AL base (List Term × Unit) := zf (zg (vSl 42)) aNil
def zrn (F : List Term → Bool × Int) : Ab.Spec ty := zk zI1 fun x => ((F x.1).1, zFj (F x.1).2)
abbrev ttTref05Size0 := List Term × Int × Int × Int × Unit × Int × Unit
abbrev ttTref05Size1 := List Term × Int × Int × Int × Atom
abbrev ttTref05Size2 := List Term × Int × Int × Int
abbrev ttTref05Size3 := List Term × Int × Int × Int × Unit
abbrev ttTref05Size4 := List Term × Int × Int
abbrev ttTref05Size5 := List Term × Int × Int × Unit
def zmF (zJ : List Term → Bool × Int) (a : List Term) (n_ : Int) (i : Int) (k : Int) (j : Int) (x_ : Atom) : Wy ttTref05Size0 (Atom × Unit) ttTref05Size1 := .i (decide (j < Int.ofNat x_.Args.length)) (.i (decide (0 ≤ j) && decide (j < Int.ofNat x_.Args.length)) (.bn (zJ (x_.Args.getD j.toNat default)) fun r0 => .h (a, (IntKind.i64.wrap (n_ + r0)), i, k, (), (IntKind.i64.wrap (j + 1)), ()) (x_, ())) .d) (.k (a, n_, i, k, x_))
def zpv (zJ : List Term → Bool × Int) (x : ttTref05Size0) (y : Atom × Unit) : Wy ttTref05Size0 (Atom × Unit) ttTref05Size1 := zmF zJ x.1 x.2.1 x.2.2.1 x.2.2.2.1 x.2.2.2.2.2.1 y.1
def zCn (zJ : List Term → Bool × Int) (n : Nat) (a : List Term) (n_ : Int) (i : Int) (k : Int) (j : Int) (x_ : Atom) : Bool × ttTref05Size1 := z7 (zpv zJ) default n (a, n_, i, k, (), j, ()) (x_, ())
def zAu (r : ttTref05Size1) : LTree ty := .done (.exit 4) [.sl 42 r.1, .lit (.int .i64 r.2.1), .lit (.int .i64 r.2.2.1), .lit (.int .i64 r.2.2.2.1), .ptr 284 0] [.box (base.enc 48 r.2.2.2.2) false]
def zB3 : LL ty ttTref05Size0 := za (lSl 42) (za (lInt .i64) (za (lInt .i64) (za (lInt .i64) (za (zg3 284 0) (za (lInt .i64) zK)))))
def zC5 : BL ty (Atom × Unit) := bBox (ziu (fun x => (⟨x.1, ⟨x.2.1, x.2.2.1⟩, x.2.2.2.1, x.2.2.2.2.1, x.2.2.2.2.2.1, x.2.2.2.2.2.2.1, ⟨x.2.2.2.2.2.2.2.1, x.2.2.2.2.2.2.2.2.1, x.2.2.2.2.2.2.2.2.2.1⟩⟩ : Atom)) (fun x => (x.Kind, x.Row.Table, x.Row.Seq, x.Args, x.Func, x.Items, x.Op, x.Bound.Kind, x.Bound.Int, x.Bound.Text, ())) (fun _ => rfl) (za (lInt .i64) (za (lInt .i64) (za (lInt .i64) (za (lSl 23) (za (lInt .i64) (za (lSl 52) (za (lInt .i64) (za (lInt .i64) (za (lInt .i64) (za lStr zK))))))))))) false (bNil)
def zmz (zJ : List Term → Bool × Int) (a : List Term) (n_ : Int) (i : Int) (k : Int) (j : Int) (x_ : Atom) : Wy ttTref05Size0 (Atom × Unit) ttTref05Size2 := .i (decide (j < Int.ofNat x_.Items.length)) (.i (decide (0 ≤ j) && decide (j < Int.ofNat x_.Items.length)) (.bn (zJ (x_.Items.getD j.toNat default).Ann) fun r2 => .h (a, (IntKind.i64.wrap (IntKind.i64.wrap (n_ + 1) + r2)), i, k, (), (IntKind.i64.wrap (j + 1)), ()) (x_, ())) .d) (.k (a, n_, i, k))
def zpN (zJ : List Term → Bool × Int) (x : ttTref05Size0) (y : Atom × Unit) : Wy ttTref05Size0 (Atom × Unit) ttTref05Size2 := zmz zJ x.1 x.2.1 x.2.2.1 x.2.2.2.1 x.2.2.2.2.2.1 y.1
def zCu (zJ : List Term → Bool × Int) (n : Nat) (a : List Term) (n_ : Int) (i : Int) (k : Int) (j : Int) (x_ : Atom) : Bool × ttTref05Size2 := z7 (zpN zJ) default n (a, n_, i, k, (), j, ()) (x_, ())
def zAG (r : ttTref05Size2) : LTree ty := .done (.exit 6) [.sl 42 r.1, .lit (.int .i64 r.2.1), .lit (.int .i64 r.2.2.1), .lit (.int .i64 r.2.2.2)] []
def zCU : LL ty ttTref05Size0 := za (lSl 42) (za (lInt .i64) (za (lInt .i64) (za (lInt .i64) (za (zg3 284 0) (za (lInt .i64) zK)))))
def zC0 : BL ty (Atom × Unit) := bBox (ziu (fun x => (⟨x.1, ⟨x.2.1, x.2.2.1⟩, x.2.2.2.1, x.2.2.2.2.1, x.2.2.2.2.2.1, x.2.2.2.2.2.2.1, ⟨x.2.2.2.2.2.2.2.1, x.2.2.2.2.2.2.2.2.1, x.2.2.2.2.2.2.2.2.2.1⟩⟩ : Atom)) (fun x => (x.Kind, x.Row.Table, x.Row.Seq, x.Args, x.Func, x.Items, x.Op, x.Bound.Kind, x.Bound.Int, x.Bound.Text, ())) (fun _ => rfl) (za (lInt .i64) (za (lInt .i64) (za (lInt .i64) (za (lSl 23) (za (lInt .i64) (za (lSl 52) (za (lInt .i64) (za (lInt .i64) (za (lInt .i64) (za lStr zK))))))))))) false (bNil)
def znz (zJ : List Term → Bool × Int) (a : List Term) (n_ : Int) (i : Int) (k : Int) : Wy ttTref05Size3 (Unit) ttTref05Size4 := .i (decide (0 ≤ i) && decide (i < Int.ofNat a.length)) (.i (decide (k < Int.ofNat (a.getD i.toNat default).Factors.length)) (.i (decide (0 ≤ i) && decide (i < Int.ofNat a.length)) (.i (decide (0 ≤ k) && decide (k < Int.ofNat (a.getD i.toNat default).Factors.length)) (.bn (zCn zJ (((a.length + (IntKind.i64.wrap (n_ + 1)).toNat + i.toNat + k.toNat + Int.toNat 0 + 1) + (Atom.mk ((a.getD i.toNat default).Factors.getD k.toNat default).Atom.Kind ((a.getD i.toNat default).Factors.getD k.toNat default).Atom.Row ((a.getD i.toNat default).Factors.getD k.toNat default).Atom.Args ((a.getD i.toNat default).Factors.getD k.toNat default).Atom.Func ((a.getD i.toNat default).Factors.getD k.toNat default).Atom.Items ((a.getD i.toNat default).Factors.getD k.toNat default).Atom.Op ((a.getD i.toNat default).Factors.getD k.toNat default).Atom.Bound).Args.length + (Atom.mk ((a.getD i.toNat default).Factors.getD k.toNat default).Atom.Kind ((a.getD i.toNat default).Factors.getD k.toNat default).Atom.Row ((a.getD i.toNat default).Factors.getD k.toNat default).Atom.Args ((a.getD i.toNat default).Factors.getD k.toNat default).Atom.Func ((a.getD i.toNat default).Factors.getD k.toNat default).Atom.Items ((a.getD i.toNat default).Factors.getD k.toNat default).Atom.Op ((a.getD i.toNat default).Factors.getD k.toNat default).Atom.Bound).Items.length) + szTs a) a (IntKind.i64.wrap (n_ + 1)) i k 0 (Atom.mk ((a.getD i.toNat default).Factors.getD k.toNat default).Atom.Kind ((a.getD i.toNat default).Factors.getD k.toNat default).Atom.Row ((a.getD i.toNat default).Factors.getD k.toNat default).Atom.Args ((a.getD i.toNat default).Factors.getD k.toNat default).Atom.Func ((a.getD i.toNat default).Factors.getD k.toNat default).Atom.Items ((a.getD i.toNat default).Factors.getD k.toNat default).Atom.Op ((a.getD i.toNat default).Factors.getD k.toNat default).Atom.Bound)) fun r5 => .bn (zCu zJ (((r5.1.length + r5.2.1.toNat + r5.2.2.1.toNat + r5.2.2.2.1.toNat + Int.toNat 0 + 1) + (Atom.mk r5.2.2.2.2.Kind r5.2.2.2.2.Row r5.2.2.2.2.Args r5.2.2.2.2.Func r5.2.2.2.2.Items r5.2.2.2.2.Op r5.2.2.2.2.Bound).Args.length + (Atom.mk r5.2.2.2.2.Kind r5.2.2.2.2.Row r5.2.2.2.2.Args r5.2.2.2.2.Func r5.2.2.2.2.Items r5.2.2.2.2.Op r5.2.2.2.2.Bound).Items.length) + szTs r5.1) r5.1 r5.2.1 r5.2.2.1 r5.2.2.2.1 0 (Atom.mk r5.2.2.2.2.Kind r5.2.2.2.2.Row r5.2.2.2.2.Args r5.2.2.2.2.Func r5.2.2.2.2.Items r5.2.2.2.2.Op r5.2.2.2.2.Bound)) fun r4 => .h ((r4.1), (r4.2.1), (r4.2.2.1), (IntKind.i64.wrap (r4.2.2.2 + 1)), ()) ()) .d) .d) (.k (a, n_, i))) .d
def zqQ (zJ : List Term → Bool × Int) (x : ttTref05Size3) (y : Unit) : Wy ttTref05Size3 (Unit) ttTref05Size4 := znz zJ x.1 x.2.1 x.2.2.1 x.2.2.2.1
def zDr (zJ : List Term → Bool × Int) (n : Nat) (a : List Term) (n_ : Int) (i : Int) (k : Int) : Bool × ttTref05Size4 := z7 (zqQ zJ) default n (a, n_, i, k, ()) ()
def zCB (r : ttTref05Size4) : LTree ty := .done (.exit 2) [.sl 42 r.1, .lit (.int .i64 r.2.1), .lit (.int .i64 r.2.2)] []
def zEa : LL ty ttTref05Size3 := za (lSl 42) (za (lInt .i64) (za (lInt .i64) (za (lInt .i64) zK)))
def zD6 : BL ty (Unit) := bNil
def znr (zJ : List Term → Bool × Int) (a : List Term) (n_ : Int) (i : Int) : Wy ttTref05Size5 (Unit) (Int) := .i (decide (i < Int.ofNat a.length)) (.bn (zDr zJ ((a.length + (IntKind.i64.wrap (n_ + 1)).toNat + i.toNat + Int.toNat 0 + 1) + szTs a) a (IntKind.i64.wrap (n_ + 1)) i 0) fun r8 => .h ((r8.1), (r8.2.1), (IntKind.i64.wrap (r8.2.2 + 1)), ()) ()) (.k n_)
def zqR (zJ : List Term → Bool × Int) (x : ttTref05Size5) (y : Unit) : Wy ttTref05Size5 (Unit) (Int) := znr zJ x.1 x.2.1 x.2.2.1
def zDW (zJ : List Term → Bool × Int) (n : Nat) (a : List Term) (n_ : Int) (i : Int) : Bool × Int := z7 (zqR zJ) default n (a, n_, i, ()) ()
def zBZ (r : Int) : LTree ty := .done (.exit 0) [.lit (.int .i64 r)] []
def zD5 : LL ty ttTref05Size5 := za (lSl 42) (za (lInt .i64) (za (lInt .i64) zK))
def zDD : BL ty (Unit) := bNil
def zAz (x : ttTref05Size0) (y : Atom × Unit) : Nat := (((x.1.length + Int.toNat x.2.1 + Int.toNat x.2.2.1 + Int.toNat x.2.2.2.1 + Int.toNat x.2.2.2.2.2.1 + 1) + y.1.Args.length + y.1.Items.length) + szTs x.1)
def zAU (x : ttTref05Size0) (y : Atom × Unit) : Nat := (((x.1.length + Int.toNat x.2.1 + Int.toNat x.2.2.1 + Int.toNat x.2.2.2.1 + Int.toNat x.2.2.2.2.2.1 + 1) + y.1.Args.length + y.1.Items.length) + szTs x.1)
def zCE (x : ttTref05Size3) (y : Unit) : Nat := ((x.1.length + Int.toNat x.2.1 + Int.toNat x.2.2.1 + Int.toNat x.2.2.2.1 + 1) + szTs x.1)
def zBL (x : ttTref05Size5) (y : Unit) : Nat := ((x.1.length + Int.toNat x.2.1 + Int.toNat x.2.2.1 + 1) + szTs x.1)
def znk (zJ : List Term → Bool × Int) : Cx ty := mkCx base 71 [(48, (zrn zJ))] [] [(3, [(0, .keep), (3, .keep), (4, .keep)]), (7, [(0, .keep), (3, .keep), (4, .keep), (5, .keep)]), (12, [(0, .keep), (3, .keep), (4, .keep), (5, .keep), (6, .keep), (7, .keep)]), (16, [(0, .keep), (3, .keep), (4, .keep), (5, .keep), (6, .keep), (8, .keep)])] [(3, 1, [(3, .keep)]), (7, 3, [(0, .keep), (3, .keep), (4, .keep)]), (12, 5, [(0, .keep), (3, .keep), (4, .keep), (5, .keep), (6, .keep)]), (16, 7, [(0, .keep), (3, .keep), (4, .keep), (5, .keep)])] [(12, spW zB3 zC5 (zpv zJ) default zAu zAz), (16, spW zCU zC0 (zpN zJ) default zAG zAU), (7, spW zEa zD6 (zqQ zJ) default zCB zCE), (3, spW zD5 zDD (zqR zJ) default zBZ zBL)] []
theorem zJF (zJ : List Term → Bool × Int) : zY (znk zJ) (lp (body Tryz.f48) 2) := zO (id := 12) (V := zB3) (B := zC5) (W := zpv zJ) (z := default) (tr := zAu) (m := zAz)
theorem zJA (zJ : List Term → Bool × Int) : zY (znk zJ) (lp (body Tryz.f48) 3) := zO (id := 16) (V := zCU) (B := zC0) (W := zpN zJ) (z := default) (tr := zAG) (m := zAU)
theorem zKX (zJ : List Term → Bool × Int) : zY (znk zJ) (lp (body Tryz.f48) 1) := zO (id := 7) (V := zEa) (B := zD6) (W := zqQ zJ) (z := default) (tr := zCB) (m := zCE)
theorem zKC (zJ : List Term → Bool × Int) : zY (znk zJ) (lp (body Tryz.f48) 0) := zO (id := 3) (V := zD5) (B := zDD) (W := zqR zJ) (z := default) (tr := zBZ) (m := zBL)
def zxH (zJ : List Term → Bool × Int) (a : List Term) : Wy0 (Int) := .bn (zDW zJ ((a.length + Int.toNat 0 + Int.toNat 0 + 1) + szTs a) a 0 0) fun r10 => .k r10
def zwj (zJ : List Term → Bool × Int) (a : List Term) : Bool × Int := (zxH zJ a).fin default
theorem zIX (zJ : List Term → Bool × Int) (zMq : Sound Tryz.prog base 48 (zrn zJ)) : Sound Tryz.prog base 48 (zrn (zwj zJ)) :=
 zo (cx' := (znk zJ)) zH zm zy (zn ⟨zMq, trivial⟩) Tryz.call48 Tryz.func48 (c := body Tryz.f48) (by kernel_rfl) (zh (l := [lp (body Tryz.f48) 0, lp (body Tryz.f48) 1, lp (body Tryz.f48) 2, lp (body Tryz.f48) 3]) (by kernel_rfl) ⟨zKC zJ, zKX zJ, zJF zJ, zJA zJ, trivial⟩) (sg := ⟨[.pure], []⟩) (A := zI1) (res := zFj) (W := fun x => zxH zJ x.1) (z := default)
def zNd : Nat → (List Term → Bool × Int)
 | 0 => fun _ => (false, default)
 | n + 1 => zwj (zNd n)
def zoE (n : Nat) : List Term → Bool × Int := zNd n
theorem zLf (n : Nat) : zoE (n + 1) = zwj (zoE n) := rfl
theorem zKe : ∀ n, Sound Tryz.prog base 48 (zrn (zoE n))
 | 0 => zbj Tryz.call48 (fun _ => rfl)
 | n + 1 => by
  have ih := zKe n
  exact zIX _ (ih)
def zF8 : List Term → Bool × Int := zoE 1000
def ref05_Size_spec : Ab.Spec ty := zrn zF8
theorem zKv : Sound Tryz.prog base 48 ref05_Size_spec := (zKe 1000)
abbrev ttTref05Fits0 := List Term × Int × Int × Unit
abbrev ttTref05Fits1 := Bool ⊕ (List Term × Int)
abbrev ttTref05Fits2 := List Term × Int × Unit
def zp7 (a : List Term) (i : Int) (k : Int) : Wy ttTref05Fits0 (Unit) ttTref05Fits1 := .i (decide (0 ≤ i) && decide (i < Int.ofNat a.length)) (.i (decide (k < Int.ofNat (a.getD i.toNat default).Factors.length)) (.i (decide (0 ≤ i) && decide (i < Int.ofNat a.length)) (.i (decide (0 ≤ k) && decide (k < Int.ofNat (a.getD i.toNat default).Factors.length)) (.i (decide (((a.getD i.toNat default).Factors.getD k.toNat default).Exp > 64)) (.k (.inl false)) (.i (decide (0 ≤ i) && decide (i < Int.ofNat a.length)) (.i (decide (0 ≤ k) && decide (k < Int.ofNat (a.getD i.toNat default).Factors.length)) (.i (decide (Int.ofNat ((a.getD i.toNat default).Factors.getD k.toNat default).Atom.Items.length > 1024)) (.k (.inl false)) (.h (a, i, (IntKind.i64.wrap (k + 1)), ()) ())) .d) .d)) .d) .d) (.k (.inr (a, i)))) .d
def zuj (x : ttTref05Fits0) (y : Unit) : Wy ttTref05Fits0 (Unit) ttTref05Fits1 := zp7 x.1 x.2.1 x.2.2.1
def zHb (n : Nat) (a : List Term) (i : Int) (k : Int) : Bool × ttTref05Fits1 := z7 (zuj) (.inl default) n (a, i, k, ()) ()
def zE2 (r : ttTref05Fits1) : LTree ty := .ite (isL r) (.done .ret [.lit (.bool (getL r))] []) (.done (.exit 2) [.sl 42 (getR r).1, .lit (.int .i64 (getR r).2)] [])
def zHe : LL ty ttTref05Fits0 := za (lSl 42) (za (lInt .i64) (za (lInt .i64) zK))
def zGR : BL ty (Unit) := bNil
def zp4 (a : List Term) (i : Int) : Wy ttTref05Fits2 (Unit) (Bool ⊕ Unit) := .i (decide (i < Int.ofNat a.length)) (.i (decide (0 ≤ i) && decide (i < Int.ofNat a.length)) (.i (decide (Int.ofNat (a.getD i.toNat default).Factors.length > 64)) (.k (.inl false)) (.bn (zHb ((a.length + i.toNat + Int.toNat 0 + 1) + szTs a) a i 0) fun r0 => .i (isL r0) (.k (.inl (getL r0))) (.h ((getR r0).1, (IntKind.i64.wrap ((getR r0).2 + 1)), ()) ()))) .d) (.k (.inr ()))
def zul (x : ttTref05Fits2) (y : Unit) : Wy ttTref05Fits2 (Unit) (Bool ⊕ Unit) := zp4 x.1 x.2.1
def zG9 (n : Nat) (a : List Term) (i : Int) : Bool × (Bool ⊕ Unit) := z7 (zul) (.inl default) n (a, i, ()) ()
def zFI (r : Bool ⊕ Unit) : LTree ty := .ite (isL r) (.done .ret [.lit (.bool (getL r))] []) (.done (.exit 0) [] [])
def zGP : LL ty ttTref05Fits2 := za (lSl 42) (za (lInt .i64) zK)
def zG2 : BL ty (Unit) := bNil
def zFC (x : ttTref05Fits0) (y : Unit) : Nat := ((x.1.length + Int.toNat x.2.1 + Int.toNat x.2.2.1 + 1) + szTs x.1)
def zFr (x : ttTref05Fits2) (y : Unit) : Nat := ((x.1.length + Int.toNat x.2.1 + 1) + szTs x.1)
def zzU : Cx ty := mkCx base 65 [(48, ref05_Size_spec), (147, ref05_Nesting_spec)] [] [(4, [(0, .keep), (3, .keep)]), (9, [(0, .keep), (3, .keep), (4, .keep)])] [(4, 1, []), (4, 0, [(2, .keep)]), (9, 3, [(0, .keep), (3, .keep)]), (9, 0, [(2, .keep)])] [(9, spW zHe zGR (zuj) (.inl default) zE2 zFC), (4, spW zGP zG2 (zul) (.inl default) zFI zFr)] []
theorem zMQ : zY zzU (lp (body Tryz.f102) 1) := zO (id := 9) (V := zHe) (B := zGR) (W := zuj) (z := .inl default) (tr := zE2) (m := zFC)
theorem zMJ : zY zzU (lp (body Tryz.f102) 0) := zO (id := 4) (V := zGP) (B := zG2) (W := zul) (z := .inl default) (tr := zFI) (m := zFr)
def zBS (a : List Term) : Wy0 (Bool) := .i (decide (Int.ofNat a.length > 512)) (.k false) (.bn (zz4 a) fun r4 => .i (decide (r4 > 8)) (.k false) (.bn (zF8 a) fun r3 => .i (decide (r3 > 4096)) (.k false) (.bn (zG9 ((a.length + Int.toNat 0 + 1) + szTs a) a 0) fun r2 => .i (isL r2) (.k (getL r2)) (.k true))))
def zsv (a : List Term) : Bool × Bool := (zBS a).fin default
def zER (r : Bool) : ARes ty := ⟨[.pure (.lit (.bool r))], []⟩
def zH0 : AL base (List Term × Unit) := zf (zg (vSl 42)) aNil
def zvA : Ab.Spec ty := zk zH0 fun x => ((zsv x.1).1, zER (zsv x.1).2)
theorem zCw : Sound Tryz.prog base 102 zvA :=
 zo (cx' := zzU) zH zm zy (zn ⟨zKv, zHK, trivial⟩) Tryz.call102 Tryz.func102 (c := body Tryz.f102) (by kernel_rfl) (zh (l := [lp (body Tryz.f102) 0, lp (body Tryz.f102) 1]) (by kernel_rfl) ⟨zMJ, zMQ, trivial⟩) (sg := ⟨[.pure], []⟩) (A := zH0) (res := zER) (W := fun x => zBS x.1) (z := default)
abbrev ttTref05Valid0 := List Term × Int × Unit × Int × Unit
abbrev ttTref05Valid1 := Bool ⊕ (List Term × Int)
abbrev ttTref05Valid2 := List Term × Int × Unit
def zlw (zQ : Atom → Bool × Bool) (a : List Term) (i : Int) (k : Int) (t : Term) : Wy ttTref05Valid0 (Term × Unit) ttTref05Valid1 := .i (decide (k < Int.ofNat t.Factors.length)) (.i (decide (0 ≤ k) && decide (k < Int.ofNat t.Factors.length)) (.i (decide ((t.Factors.getD k.toNat default).Exp < 1)) (.k (.inl false)) (.i (decide ((t.Factors.getD k.toNat default).Exp > 1)) (.i (decide ((t.Factors.getD k.toNat default).Atom.Kind ≥ 3)) (.k (.inl false)) (.bn (zQ (Atom.mk (t.Factors.getD k.toNat default).Atom.Kind (t.Factors.getD k.toNat default).Atom.Row (t.Factors.getD k.toNat default).Atom.Args (t.Factors.getD k.toNat default).Atom.Func (t.Factors.getD k.toNat default).Atom.Items (t.Factors.getD k.toNat default).Atom.Op (t.Factors.getD k.toNat default).Atom.Bound)) fun r1 => .i (!r1) (.k (.inl false)) (.i (decide (k > 0)) (.i (decide (0 ≤ IntKind.i64.wrap (k - 1)) && decide (IntKind.i64.wrap (k - 1) < Int.ofNat t.Factors.length)) (.bn (zjl (Atom.mk (t.Factors.getD (IntKind.i64.wrap (k - 1)).toNat default).Atom.Kind (t.Factors.getD (IntKind.i64.wrap (k - 1)).toNat default).Atom.Row (t.Factors.getD (IntKind.i64.wrap (k - 1)).toNat default).Atom.Args (t.Factors.getD (IntKind.i64.wrap (k - 1)).toNat default).Atom.Func (t.Factors.getD (IntKind.i64.wrap (k - 1)).toNat default).Atom.Items (t.Factors.getD (IntKind.i64.wrap (k - 1)).toNat default).Atom.Op (t.Factors.getD (IntKind.i64.wrap (k - 1)).toNat default).Atom.Bound) (Atom.mk (t.Factors.getD k.toNat default).Atom.Kind (t.Factors.getD k.toNat default).Atom.Row (t.Factors.getD k.toNat default).Atom.Args (t.Factors.getD k.toNat default).Atom.Func (t.Factors.getD k.toNat default).Atom.Items (t.Factors.getD k.toNat default).Atom.Op (t.Factors.getD k.toNat default).Atom.Bound)) fun r0 => .i (decide (r0 ≥ 0)) (.k (.inl false)) (.h (a, i, (), (IntKind.i64.wrap (k + 1)), ()) (t, ()))) .d) (.h (a, i, (), (IntKind.i64.wrap (k + 1)), ()) (t, ()))))) (.bn (zQ (Atom.mk (t.Factors.getD k.toNat default).Atom.Kind (t.Factors.getD k.toNat default).Atom.Row (t.Factors.getD k.toNat default).Atom.Args (t.Factors.getD k.toNat default).Atom.Func (t.Factors.getD k.toNat default).Atom.Items (t.Factors.getD k.toNat default).Atom.Op (t.Factors.getD k.toNat default).Atom.Bound)) fun r3 => .i (!r3) (.k (.inl false)) (.i (decide (k > 0)) (.i (decide (0 ≤ IntKind.i64.wrap (k - 1)) && decide (IntKind.i64.wrap (k - 1) < Int.ofNat t.Factors.length)) (.bn (zjl (Atom.mk (t.Factors.getD (IntKind.i64.wrap (k - 1)).toNat default).Atom.Kind (t.Factors.getD (IntKind.i64.wrap (k - 1)).toNat default).Atom.Row (t.Factors.getD (IntKind.i64.wrap (k - 1)).toNat default).Atom.Args (t.Factors.getD (IntKind.i64.wrap (k - 1)).toNat default).Atom.Func (t.Factors.getD (IntKind.i64.wrap (k - 1)).toNat default).Atom.Items (t.Factors.getD (IntKind.i64.wrap (k - 1)).toNat default).Atom.Op (t.Factors.getD (IntKind.i64.wrap (k - 1)).toNat default).Atom.Bound) (Atom.mk (t.Factors.getD k.toNat default).Atom.Kind (t.Factors.getD k.toNat default).Atom.Row (t.Factors.getD k.toNat default).Atom.Args (t.Factors.getD k.toNat default).Atom.Func (t.Factors.getD k.toNat default).Atom.Items (t.Factors.getD k.toNat default).Atom.Op (t.Factors.getD k.toNat default).Atom.Bound)) fun r2 => .i (decide (r2 ≥ 0)) (.k (.inl false)) (.h (a, i, (), (IntKind.i64.wrap (k + 1)), ()) (t, ()))) .d) (.h (a, i, (), (IntKind.i64.wrap (k + 1)), ()) (t, ())))))) .d) (.k (.inr (a, i)))
def zod (zQ : Atom → Bool × Bool) (x : ttTref05Valid0) (y : Term × Unit) : Wy ttTref05Valid0 (Term × Unit) ttTref05Valid1 := zlw zQ x.1 x.2.1 x.2.2.2.1 y.1
def ztr (zQ : Atom → Bool × Bool) (n : Nat) (a : List Term) (i : Int) (k : Int) (t : Term) : Bool × ttTref05Valid1 := z7 (zod zQ) (.inl default) n (a, i, (), k, ()) (t, ())
def zyh (r : ttTref05Valid1) : LTree ty := .ite (isL r) (.done .ret [.lit (.bool (getL r))] []) (.done (.exit 2) [.sl 42 (getR r).1, .lit (.int .i64 (getR r).2)] [])
def zAf : LL ty ttTref05Valid0 := za (lSl 42) (za (lInt .i64) (za (zg3 372 0) (za (lInt .i64) zK)))
def zAT : BL ty (Term × Unit) := bBox (ziu (fun x => (⟨x.1, x.2.1⟩ : Term)) (fun x => (x.Coeff, x.Factors, ())) (fun _ => rfl) (za (lInt .i64) (za (lSl 50) zK))) false (bNil)
def zmy (zQ : Atom → Bool × Bool) (a : List Term) (i : Int) : Wy ttTref05Valid2 (Unit) (Bool ⊕ Unit) := .i (decide (i < Int.ofNat a.length)) (.i (decide (0 ≤ i) && decide (i < Int.ofNat a.length)) (.i (decide ((a.getD i.toNat default).Coeff < 1)) (.k (.inl false)) (.i (decide ((a.getD i.toNat default).Coeff > 1152921504606846976)) (.k (.inl false)) (.i (decide (i > 0)) (.i (decide (0 ≤ IntKind.i64.wrap (i - 1)) && decide (IntKind.i64.wrap (i - 1) < Int.ofNat a.length)) (.bn (zjb (a.getD (IntKind.i64.wrap (i - 1)).toNat default).Factors (a.getD i.toNat default).Factors) fun r9 => .i (decide (r9 ≥ 0)) (.k (.inl false)) (.bn (ztr zQ (((a.length + i.toNat + Int.toNat 0 + 1) + (a.getD i.toNat default).Factors.length) + szTs a) a i 0 (a.getD i.toNat default)) fun r8 => .i (isL r8) (.k (.inl (getL r8))) (.h ((getR r8).1, (IntKind.i64.wrap ((getR r8).2 + 1)), ()) ()))) .d) (.bn (ztr zQ (((a.length + i.toNat + Int.toNat 0 + 1) + (a.getD i.toNat default).Factors.length) + szTs a) a i 0 (a.getD i.toNat default)) fun r10 => .i (isL r10) (.k (.inl (getL r10))) (.h ((getR r10).1, (IntKind.i64.wrap ((getR r10).2 + 1)), ()) ()))))) .d) (.k (.inr ()))
def zpL (zQ : Atom → Bool × Bool) (x : ttTref05Valid2) (y : Unit) : Wy ttTref05Valid2 (Unit) (Bool ⊕ Unit) := zmy zQ x.1 x.2.1
def zBG (zQ : Atom → Bool × Bool) (n : Nat) (a : List Term) (i : Int) : Bool × (Bool ⊕ Unit) := z7 (zpL zQ) (.inl default) n (a, i, ()) ()
def zAX (r : Bool ⊕ Unit) : LTree ty := .ite (isL r) (.done .ret [.lit (.bool (getL r))] []) (.done (.exit 0) [] [])
def zBy : LL ty ttTref05Valid2 := za (lSl 42) (za (lInt .i64) zK)
def zCT : BL ty (Unit) := bNil
def zy3 (x : ttTref05Valid0) (y : Term × Unit) : Nat := (((x.1.length + Int.toNat x.2.1 + Int.toNat x.2.2.2.1 + 1) + y.1.Factors.length) + szTs x.1)
def zAL (x : ttTref05Valid2) (y : Unit) : Nat := ((x.1.length + Int.toNat x.2.1 + 1) + szTs x.1)
def zup (zQ : Atom → Bool × Bool) : Cx ty := mkCx base 93 [(89, ref05_CompareFactors_spec), (102, zvA), (103, (zoe zQ)), (104, ref05_CompareAtom_spec)] [] [(4, [(0, .keep), (3, .keep)]), (10, [(0, .keep), (3, .keep), (4, .keep), (5, .keep)])] [(4, 1, []), (4, 0, [(2, .keep)]), (10, 3, [(0, .keep), (3, .keep)]), (10, 0, [(2, .keep)])] [(10, spW zAf zAT (zod zQ) (.inl default) zyh zy3), (4, spW zBy zCT (zpL zQ) (.inl default) zAX zAL)] []
theorem zIA (zQ : Atom → Bool × Bool) : zY (zup zQ) (lp (body Tryz.f46) 1) := zO (id := 10) (V := zAf) (B := zAT) (W := zod zQ) (z := .inl default) (tr := zyh) (m := zy3)
theorem zJN (zQ : Atom → Bool × Bool) : zY (zup zQ) (lp (body Tryz.f46) 0) := zO (id := 4) (V := zBy) (B := zCT) (W := zpL zQ) (z := .inl default) (tr := zAX) (m := zAL)
def zv8 (zQ : Atom → Bool × Bool) (a : List Term) : Wy0 (Bool) := .bn (zsv a) fun r15 => .i (!r15) (.k false) (.bn (zBG zQ ((a.length + Int.toNat 0 + 1) + szTs a) a 0) fun r14 => .i (isL r14) (.k (getL r14)) (.k true))
def zqq (zQ : Atom → Bool × Bool) (a : List Term) : Bool × Bool := (zv8 zQ a).fin default
theorem zHy (zQ : Atom → Bool × Bool) (zHB : Sound Tryz.prog base 103 (zoe zQ)) : Sound Tryz.prog base 46 (zqe (zqq zQ)) :=
 zo (cx' := (zup zQ)) zH zm zy (zn ⟨zql, zCw, zHB, zsT, trivial⟩) Tryz.call46 Tryz.func46 (c := body Tryz.f46) (by kernel_rfl) (zh (l := [lp (body Tryz.f46) 0, lp (body Tryz.f46) 1]) (by kernel_rfl) ⟨zJN zQ, zIA zQ, trivial⟩) (sg := ⟨[.pure], []⟩) (A := zGS) (res := zDL) (W := fun x => zv8 zQ x.1) (z := default)
def zLs : Cx ty := mkCx base 42 [] [] [] [] [] []
def zxu (a : List Term) : Wy0 (Bool) := .i (Int.ofNat a.length == 1) (.i (decide ((0 : Int) ≤ (0 : Int)) && decide (0 < Int.ofNat a.length)) (.i ((a.getD (Int.toNat 0) default).Coeff == 1) (.i (decide ((0 : Int) ≤ (0 : Int)) && decide (0 < Int.ofNat a.length)) (.i (Int.ofNat (a.getD (Int.toNat 0) default).Factors.length == 1) (.i (decide ((0 : Int) ≤ (0 : Int)) && decide (0 < Int.ofNat a.length)) (.i (decide ((0 : Int) ≤ (0 : Int)) && decide (0 < Int.ofNat (a.getD (Int.toNat 0) default).Factors.length)) (.i (decide (((a.getD (Int.toNat 0) default).Factors.getD (Int.toNat 0) default).Atom.Kind ≥ 2)) (.i (decide ((0 : Int) ≤ (0 : Int)) && decide (0 < Int.ofNat a.length)) (.i (decide ((0 : Int) ≤ (0 : Int)) && decide (0 < Int.ofNat (a.getD (Int.toNat 0) default).Factors.length)) (.k (((a.getD (Int.toNat 0) default).Factors.getD (Int.toNat 0) default).Exp == 1)) .d) .d) (.k false)) .d) .d) (.k false)) .d) (.k false)) .d) (.k false)
def zmK (a : List Term) : Bool × Bool := (zxu a).fin default
def zBU (r : Bool) : ARes ty := ⟨[.pure (.lit (.bool r))], []⟩
def zFc : AL base (List Term × Unit) := zf (zg (vSl 42)) aNil
def ztq : Ab.Spec ty := zk zFc fun x => ((zmK x.1).1, zBU (zmK x.1).2)
theorem zyZ : Sound Tryz.prog base 66 ztq :=
 zo (cx' := zLs) zH zm zy (zn trivial) Tryz.call66 Tryz.func66 (c := body Tryz.f66) (by kernel_rfl) (zh (l := []) (by kernel_rfl) trivial) (sg := ⟨[.pure], []⟩) (A := zFc) (res := zBU) (W := fun x => zxu x.1) (z := default)
abbrev ttTref05constant0 := List Term × Int × Unit
def zlt (a : List Term) (i : Int) : Wy ttTref05constant0 (Unit) (Bool ⊕ Unit) := .i (decide (i < Int.ofNat a.length)) (.i (decide (0 ≤ i) && decide (i < Int.ofNat a.length)) (.i (Int.ofNat (a.getD i.toNat default).Factors.length == 0) (.k (.inl true)) (.h (a, (IntKind.i64.wrap (i + 1)), ()) ())) .d) (.k (.inr ()))
def zok (x : ttTref05constant0) (y : Unit) : Wy ttTref05constant0 (Unit) (Bool ⊕ Unit) := zlt x.1 x.2.1
def zAw (n : Nat) (a : List Term) (i : Int) : Bool × (Bool ⊕ Unit) := z7 (zok) (.inl default) n (a, i, ()) ()
def zzt (r : Bool ⊕ Unit) : LTree ty := .ite (isL r) (.done .ret [.lit (.bool (getL r))] []) (.done (.exit 0) [] [])
def zAp : LL ty ttTref05constant0 := za (lSl 42) (za (lInt .i64) zK)
def zAV : BL ty (Unit) := bNil
def zAQ : Cx ty := mkCx base 17 [] [] [(2, [(0, .keep), (3, .keep)])] [(2, 1, []), (2, 0, [(2, .keep)])] [(2, spW zAp zAV (zok) (.inl default) zzt fun x y => (x.1.length + Int.toNat x.2.1 + 1))] []
theorem zJh : zY zAQ (lp (body Tryz.f67) 0) := zO (id := 2) (V := zAp) (B := zAV) (W := zok) (z := .inl default) (tr := zzt) (m := fun x y => (x.1.length + Int.toNat x.2.1 + 1))
def zuw (a : List Term) : Wy0 (Bool) := .bn (zAw (a.length + Int.toNat 0 + 1) a 0) fun r0 => .i (isL r0) (.k (getL r0)) (.k false)
def zha (a : List Term) : Bool × Bool := (zuw a).fin default
def zyM (r : Bool) : ARes ty := ⟨[.pure (.lit (.bool r))], []⟩
def zCl : AL base (List Term × Unit) := zf (zg (vSl 42)) aNil
def zmQ : Ab.Spec ty := zk zCl fun x => ((zha x.1).1, zyM (zha x.1).2)
theorem zpx : Sound Tryz.prog base 67 zmQ :=
 zo (cx' := zAQ) zH zm zy (zn trivial) Tryz.call67 Tryz.func67 (c := body Tryz.f67) (by kernel_rfl) (zh (l := [lp (body Tryz.f67) 0]) (by kernel_rfl) ⟨zJh, trivial⟩) (sg := ⟨[.pure], []⟩) (A := zCl) (res := zyM) (W := fun x => zuw x.1) (z := default)
def zMI : Cx ty := mkCx base 36 [] [] [] [] [] []
def zzV (v : Value) : Wy0 (Bool) := .i (v.Kind == 0) (.k (v.Text.toList == (ByteArray.mk #[]).toList)) (.i (v.Kind == 1) (.i (v.Int == 0) (.k (decide (Int.ofNat v.Text.size ≤ 255))) (.k false)) (.i (v.Kind == 2) (.i (v.Text.toList == (ByteArray.mk #[]).toList) (.i (v.Int == 0) (.k true) (.k (v.Int == 1))) (.k false)) (.k false)))
def zqx (v : Value) : Bool × Bool := (zzV v).fin default
def zDR (r : Bool) : ARes ty := ⟨[.pure (.lit (.bool r))], []⟩
def zGW : AL base (Value × Unit) := zf (zg (vAgg 46)) aNil
def zCs : Ab.Spec ty := zk zGW fun x => ((zqx x.1).1, zDR (zqx x.1).2)
theorem zJM : Sound Tryz.prog base 137 zCs :=
 zo (cx' := zMI) zH zm zy (zn trivial) Tryz.call137 Tryz.func137 (c := body Tryz.f137) (by kernel_rfl) (zh (l := []) (by kernel_rfl) trivial) (sg := ⟨[.pure], []⟩) (A := zGW) (res := zDR) (W := fun x => zzV x.1) (z := default)
abbrev ttTref05kinds0 := Int × List Weighted × Unit × Int × Unit
def zoI (fn : Int) (items : List Weighted) (i : Int) (bound : Value) : Wy ttTref05kinds0 (Value × Unit) (Bool ⊕ Unit) := .i (decide (i < Int.ofNat items.length)) (.i (decide (0 ≤ i) && decide (i < Int.ofNat items.length)) (.bn (zqx (items.getD i.toNat default).Value) fun r0 => .i (!r0) (.k (.inl false)) (.i ((items.getD i.toNat default).Value.Kind != bound.Kind) (.k (.inl false)) (.i (fn == 0) (.i ((items.getD i.toNat default).Value.Int != 1) (.k (.inl false)) (.h (fn, items, (), (IntKind.i64.wrap (i + 1)), ()) (bound, ()))) (.h (fn, items, (), (IntKind.i64.wrap (i + 1)), ()) (bound, ()))))) .d) (.k (.inr ()))
def zst (x : ttTref05kinds0) (y : Value × Unit) : Wy ttTref05kinds0 (Value × Unit) (Bool ⊕ Unit) := zoI x.1 x.2.1 x.2.2.2.1 y.1
def zxA (n : Nat) (fn : Int) (items : List Weighted) (i : Int) (bound : Value) : Bool × (Bool ⊕ Unit) := z7 (zst) (.inl default) n (fn, items, (), i, ()) (bound, ())
def zDs (r : Bool ⊕ Unit) : LTree ty := .ite (isL r) (.done .ret [.lit (.bool (getL r))] []) (.done (.exit 0) [] [])
def zEY : LL ty ttTref05kinds0 := za (lInt .i64) (za (lSl 52) (za (zg3 276 0) (za (lInt .i64) zK)))
def zE0 : BL ty (Value × Unit) := bBox (ziu (fun x => (⟨x.1, x.2.1, x.2.2.1⟩ : Value)) (fun x => (x.Kind, x.Int, x.Text, ())) (fun _ => rfl) (za (lInt .i64) (za (lInt .i64) (za lStr zK)))) false (bNil)
def zDx (x : ttTref05kinds0) (y : Value × Unit) : Nat := (Int.toNat x.1 + x.2.1.length + Int.toNat x.2.2.2.1 + 1)
def zEU : Cx ty := mkCx base 69 [(137, zCs)] [] [(4, [(0, .keep), (1, .keep), (7, .keep), (9, .keep)])] [(4, 1, []), (4, 0, [(8, .keep)])] [(4, spW zEY zE0 (zst) (.inl default) zDs zDx)] []
theorem zLV : zY zEU (lp (body Tryz.f80) 0) := zO (id := 4) (V := zEY) (B := zE0) (W := zst) (z := .inl default) (tr := zDs) (m := zDx)
def zzA (fn : Int) (items : List Weighted) (op : Int) (bound : Value) : Wy0 (Bool) := .i (decide (fn < 0)) (.k false) (.i (decide (fn > 3)) (.k false) (.i (decide (op < 5)) (.k false) (.i (decide (op > 10)) (.k false) (.bn (zqx bound) fun r4 => .i (!r4) (.k false) (.i (decide (fn ≤ 1)) (.i (bound.Kind != 0) (.k false) (.bn (zxA (fn.toNat + items.length + Int.toNat 0 + 1) fn items 0 bound) fun r2 => .i (isL r2) (.k (getL r2)) (.k true))) (.bn (zxA (fn.toNat + items.length + Int.toNat 0 + 1) fn items 0 bound) fun r3 => .i (isL r3) (.k (getL r3)) (.k true)))))))
def zt6 (fn : Int) (items : List Weighted) (op : Int) (bound : Value) : Bool × Bool := (zzA fn items op bound).fin default
def zD4 (r : Bool) : ARes ty := ⟨[.pure (.lit (.bool r))], []⟩
def zG4 : AL base (Int × List Weighted × Int × Value × Unit) := zf (zg (vInt .i64)) (zf (zg (vSl 52)) (zf (zg (vInt .i64)) (zf (zg (vAgg 46)) aNil)))
def zCX : Ab.Spec ty := zk zG4 fun x => ((zt6 x.1 x.2.1 x.2.2.1 x.2.2.2.1).1, zD4 (zt6 x.1 x.2.1 x.2.2.1 x.2.2.2.1).2)
theorem zJI : Sound Tryz.prog base 80 zCX :=
 zo (cx' := zEU) zH zm zy (zn ⟨zJM, trivial⟩) Tryz.call80 Tryz.func80 (c := body Tryz.f80) (by kernel_rfl) (zh (l := [lp (body Tryz.f80) 0]) (by kernel_rfl) ⟨zLV, trivial⟩) (sg := ⟨[.pure], []⟩) (A := zG4) (res := zD4) (W := fun x => zzA x.1 x.2.1 x.2.2.1 x.2.2.2.1) (z := default)
def zMR : Cx ty := mkCx base 23 [] [] [] [] [] []
def zzW (x_ : Atom) : Wy0 (Bool) := .i (x_.Func == 0) (.i (Int.ofNat x_.Items.length == 0) (.i (x_.Op == 0) (.k (x_.Bound.Kind == 0 && (x_.Bound.Int == 0 && (x_.Bound.Text.toList == (ByteArray.mk #[]).toList && true)))) (.k false)) (.k false)) (.k false)
def zl6 (x_ : Atom) : Bool × Bool := (zzW x_).fin default
def zDK (r : Bool) : ARes ty := ⟨[.pure (.lit (.bool r))], []⟩
def zHm : AL base (Atom × Unit) := zf (zg (vAgg 48)) aNil
def zBD : Ab.Spec ty := zk zHm fun x => ((zl6 x.1).1, zDK (zl6 x.1).2)
theorem zJQ : Sound Tryz.prog base 148 zBD :=
 zo (cx' := zMR) zH zm zy (zn trivial) Tryz.call148 Tryz.func148 (c := body Tryz.f148) (by kernel_rfl) (zh (l := []) (by kernel_rfl) trivial) (sg := ⟨[.pure], []⟩) (A := zHm) (res := zDK) (W := fun x => zzW x.1) (z := default)
abbrev ttTref05validAtom0 := Unit × Int × Unit
def ziO (zbb : List Term → Bool × Bool) (i : Int) (x_ : Atom) : Wy ttTref05validAtom0 (Atom × Unit) (Bool ⊕ Atom) := .i (decide (i < Int.ofNat x_.Args.length)) (.i (decide (0 ≤ i) && decide (i < Int.ofNat x_.Args.length)) (.i (Int.ofNat (List.length (x_.Args.getD i.toNat default)) == 0) (.k (.inl false)) (.i (decide (0 ≤ i) && decide (i < Int.ofNat x_.Args.length)) (.bn (zbb (x_.Args.getD i.toNat default)) fun r0 => .i (!r0) (.k (.inl false)) (.h ((), (IntKind.i64.wrap (i + 1)), ()) (x_, ()))) .d)) .d) (.k (.inr x_))
def zlX (zbb : List Term → Bool × Bool) (x : ttTref05validAtom0) (y : Atom × Unit) : Wy ttTref05validAtom0 (Atom × Unit) (Bool ⊕ Atom) := ziO zbb x.2.1 y.1
def zpD (zbb : List Term → Bool × Bool) (n : Nat) (i : Int) (x_ : Atom) : Bool × (Bool ⊕ Atom) := z7 (zlX zbb) (.inl default) n ((), i, ()) (x_, ())
def zvd (r : Bool ⊕ Atom) : LTree ty := .ite (isL r) (.done .ret [.lit (.bool (getL r))] []) (.done (.exit 0) [.ptr 824 0] [.box (base.enc 48 (getR r)) false])
def zwp : LL ty ttTref05validAtom0 := za (zg3 824 0) (za (lInt .i64) zK)
def zv7 : BL ty (Atom × Unit) := bBox (ziu (fun x => (⟨x.1, ⟨x.2.1, x.2.2.1⟩, x.2.2.2.1, x.2.2.2.2.1, x.2.2.2.2.2.1, x.2.2.2.2.2.2.1, ⟨x.2.2.2.2.2.2.2.1, x.2.2.2.2.2.2.2.2.1, x.2.2.2.2.2.2.2.2.2.1⟩⟩ : Atom)) (fun x => (x.Kind, x.Row.Table, x.Row.Seq, x.Args, x.Func, x.Items, x.Op, x.Bound.Kind, x.Bound.Int, x.Bound.Text, ())) (fun _ => rfl) (za (lInt .i64) (za (lInt .i64) (za (lInt .i64) (za (lSl 23) (za (lInt .i64) (za (lSl 52) (za (lInt .i64) (za (lInt .i64) (za (lInt .i64) (za lStr zK))))))))))) false (bNil)
def zil (zbb : List Term → Bool × Bool) (i : Int) (x_ : Atom) : Wy ttTref05validAtom0 (Atom × Unit) (Bool ⊕ Unit) := .i (decide (i < Int.ofNat x_.Items.length)) (.i (decide (0 ≤ i) && decide (i < Int.ofNat x_.Items.length)) (.i (Int.ofNat (x_.Items.getD i.toNat default).Ann.length == 0) (.k (.inl false)) (.i (decide (0 ≤ i) && decide (i < Int.ofNat x_.Items.length)) (.bn (zbb (x_.Items.getD i.toNat default).Ann) fun r3 => .i (!r3) (.k (.inl false)) (.i (decide (i > 0)) (.i (decide (0 ≤ IntKind.i64.wrap (i - 1)) && decide (IntKind.i64.wrap (i - 1) ≤ i) && decide (i ≤ Int.ofNat x_.Items.length)) (.i (decide (0 ≤ i) && decide (i ≤ IntKind.i64.wrap (i + 1)) && decide (IntKind.i64.wrap (i + 1) ≤ Int.ofNat x_.Items.length)) (.bn (zrq (List.take (i.toNat - (IntKind.i64.wrap (i - 1)).toNat) (List.drop (IntKind.i64.wrap (i - 1)).toNat x_.Items)) (List.take ((IntKind.i64.wrap (i + 1)).toNat - i.toNat) (List.drop i.toNat x_.Items))) fun r2 => .i (decide (r2 > 0)) (.k (.inl false)) (.h ((), (IntKind.i64.wrap (i + 1)), ()) (x_, ()))) .d) .d) (.h ((), (IntKind.i64.wrap (i + 1)), ()) (x_, ())))) .d)) .d) (.k (.inr ()))
def zk5 (zbb : List Term → Bool × Bool) (x : ttTref05validAtom0) (y : Atom × Unit) : Wy ttTref05validAtom0 (Atom × Unit) (Bool ⊕ Unit) := zil zbb x.2.1 y.1
def zvm (zbb : List Term → Bool × Bool) (n : Nat) (i : Int) (x_ : Atom) : Bool × (Bool ⊕ Unit) := z7 (zk5 zbb) (.inl default) n ((), i, ()) (x_, ())
def zt0 (r : Bool ⊕ Unit) : LTree ty := .ite (isL r) (.done .ret [.lit (.bool (getL r))] []) (.done (.exit 3) [] [])
def zuJ : LL ty ttTref05validAtom0 := za (zg3 824 0) (za (lInt .i64) zK)
def zvi : BL ty (Atom × Unit) := bBox (ziu (fun x => (⟨x.1, ⟨x.2.1, x.2.2.1⟩, x.2.2.2.1, x.2.2.2.2.1, x.2.2.2.2.2.1, x.2.2.2.2.2.2.1, ⟨x.2.2.2.2.2.2.2.1, x.2.2.2.2.2.2.2.2.1, x.2.2.2.2.2.2.2.2.2.1⟩⟩ : Atom)) (fun x => (x.Kind, x.Row.Table, x.Row.Seq, x.Args, x.Func, x.Items, x.Op, x.Bound.Kind, x.Bound.Int, x.Bound.Text, ())) (fun _ => rfl) (za (lInt .i64) (za (lInt .i64) (za (lInt .i64) (za (lSl 23) (za (lInt .i64) (za (lSl 52) (za (lInt .i64) (za (lInt .i64) (za (lInt .i64) (za lStr zK))))))))))) false (bNil)
def zuL (x : ttTref05validAtom0) (y : Atom × Unit) : Nat := ((Int.toNat x.2.1 + 1) + y.1.Args.length + y.1.Items.length)
def ztN (x : ttTref05validAtom0) (y : Atom × Unit) : Nat := ((Int.toNat x.2.1 + 1) + y.1.Args.length + y.1.Items.length)
def zpt (zbb : List Term → Bool × Bool) : Cx ty := mkCx base 206 [(24, znw), (35, ref05_CompareItems_spec), (46, (zqe zbb)), (66, ztq), (67, zmQ), (80, zCX), (148, zBD)] [] [(6, [(1, .keep), (3, .keep)]), (21, [(1, .keep), (4, .keep)])] [(6, 1, [(1, .keep)]), (6, 0, [(2, .keep)]), (21, 4, []), (21, 0, [(2, .keep)])] [(6, spW zwp zv7 (zlX zbb) (.inl default) zvd zuL), (21, spW zuJ zvi (zk5 zbb) (.inl default) zt0 ztN)] []
theorem zFT (zbb : List Term → Bool × Bool) : zY (zpt zbb) (lp (body Tryz.f103) 0) := zO (id := 6) (V := zwp) (B := zv7) (W := zlX zbb) (z := .inl default) (tr := zvd) (m := zuL)
theorem zEK (zbb : List Term → Bool × Bool) : zY (zpt zbb) (lp (body Tryz.f103) 1) := zO (id := 21) (V := zuJ) (B := zvi) (W := zk5 zbb) (z := .inl default) (tr := zt0) (m := ztN)
def zqD (zbb : List Term → Bool × Bool) (x_ : Atom) : Wy0 (Bool) := .i (x_.Kind == 0) (.i (decide (x_.Row.Table ≥ 1)) (.i (decide (x_.Row.Seq ≥ 1)) (.i (Int.ofNat x_.Args.length == 0) (.bn (zl6 (Atom.mk x_.Kind x_.Row x_.Args x_.Func x_.Items x_.Op x_.Bound)) fun r6 => .k r6) (.k false)) (.k false)) (.k false)) (.i (!(x_.Row.Table == 0 && (x_.Row.Seq == 0 && true))) (.k false) (.bn (zpD zbb ((Int.toNat 0 + 1) + (Atom.mk x_.Kind x_.Row x_.Args x_.Func x_.Items x_.Op x_.Bound).Args.length + (Atom.mk x_.Kind x_.Row x_.Args x_.Func x_.Items x_.Op x_.Bound).Items.length) 0 (Atom.mk x_.Kind x_.Row x_.Args x_.Func x_.Items x_.Op x_.Bound)) fun r17 => .i (isL r17) (.k (getL r17)) (.i ((getR r17).Kind == 1) (.i (Int.ofNat (getR r17).Args.length == 2) (.bn (zl6 (Atom.mk (getR r17).Kind (getR r17).Row (getR r17).Args (getR r17).Func (getR r17).Items (getR r17).Op (getR r17).Bound)) fun r8 => .i (r8) (.i (decide ((0 : Int) ≤ (0 : Int)) && decide (0 < Int.ofNat (getR r17).Args.length)) (.i (decide ((0 : Int) ≤ (1 : Int)) && decide (1 < Int.ofNat (getR r17).Args.length)) (.bn (zh7 ((getR r17).Args.getD (Int.toNat 0) default) ((getR r17).Args.getD (Int.toNat 1) default)) fun r7 => .k (!r7)) .d) .d) (.k false)) (.k false)) (.i ((getR r17).Kind == 2) (.i (Int.ofNat (getR r17).Args.length == 1) (.bn (zl6 (Atom.mk (getR r17).Kind (getR r17).Row (getR r17).Args (getR r17).Func (getR r17).Items (getR r17).Op (getR r17).Bound)) fun r12 => .i (r12) (.i (decide ((0 : Int) ≤ (0 : Int)) && decide (0 < Int.ofNat (getR r17).Args.length)) (.i (Int.ofNat (List.length ((getR r17).Args.getD (Int.toNat 0) default)) == 1) (.i (decide ((0 : Int) ≤ (0 : Int)) && decide (0 < Int.ofNat (getR r17).Args.length)) (.bn (zha ((getR r17).Args.getD (Int.toNat 0) default)) fun r10 => .i (!r10) (.i (decide ((0 : Int) ≤ (0 : Int)) && decide (0 < Int.ofNat (getR r17).Args.length)) (.bn (zmK ((getR r17).Args.getD (Int.toNat 0) default)) fun r9 => .k (!r9)) .d) (.k false)) .d) (.i (decide ((0 : Int) ≤ (0 : Int)) && decide (0 < Int.ofNat (getR r17).Args.length)) (.bn (zmK ((getR r17).Args.getD (Int.toNat 0) default)) fun r11 => .k (!r11)) .d)) .d) (.k false)) (.k false)) (.i ((getR r17).Kind == 3) (.i (Int.ofNat (getR r17).Args.length == 1) (.bn (zl6 (Atom.mk (getR r17).Kind (getR r17).Row (getR r17).Args (getR r17).Func (getR r17).Items (getR r17).Op (getR r17).Bound)) fun r14 => .i (r14) (.i (decide ((0 : Int) ≤ (0 : Int)) && decide (0 < Int.ofNat (getR r17).Args.length)) (.bn (zha ((getR r17).Args.getD (Int.toNat 0) default)) fun r13 => .k (!r13)) .d) (.k false)) (.k false)) (.i ((getR r17).Kind == 4) (.i (Int.ofNat (getR r17).Args.length != 0) (.k false) (.i (Int.ofNat (getR r17).Items.length == 0) (.k false) (.i (decide (Int.ofNat (getR r17).Items.length > 1024)) (.k false) (.bn (zt6 (getR r17).Func (getR r17).Items (getR r17).Op (getR r17).Bound) fun r16 => .i (!r16) (.k false) (.bn (zvm zbb ((Int.toNat 0 + 1) + (Atom.mk (getR r17).Kind (getR r17).Row (getR r17).Args (getR r17).Func (getR r17).Items (getR r17).Op (getR r17).Bound).Args.length + (Atom.mk (getR r17).Kind (getR r17).Row (getR r17).Args (getR r17).Func (getR r17).Items (getR r17).Op (getR r17).Bound).Items.length) 0 (Atom.mk (getR r17).Kind (getR r17).Row (getR r17).Args (getR r17).Func (getR r17).Items (getR r17).Op (getR r17).Bound)) fun r15 => .i (isL r15) (.k (getL r15)) (.k true)))))) (.k false)))))))
def zly (zbb : List Term → Bool × Bool) (x_ : Atom) : Bool × Bool := (zqD zbb x_).fin default
theorem zDd (zbb : List Term → Bool × Bool) (zLJ : Sound Tryz.prog base 46 (zqe zbb)) : Sound Tryz.prog base 103 (zoe (zly zbb)) :=
 zo (cx' := (zpt zbb)) zH zm zy (zn ⟨zpI, zCf, zLJ, zyZ, zpx, zJI, zJQ, trivial⟩) Tryz.call103 Tryz.func103 (c := body Tryz.f103) (by kernel_rfl) (zh (l := [lp (body Tryz.f103) 0, lp (body Tryz.f103) 1]) (by kernel_rfl) ⟨zFT zbb, zEK zbb, trivial⟩) (sg := ⟨[.pure], []⟩) (A := zAi) (res := zxj) (W := fun x => zqD zbb x.1) (z := default)
def zA3 : Nat → (List Term → Bool × Bool) × (Atom → Bool × Bool)
 | 0 => (fun _ => (false, default), fun _ => (false, default))
 | n + 1 => (zqq ((zA3 n).2), zly ((zA3 n).1))
def zqf (n : Nat) : List Term → Bool × Bool := (zA3 n).1
def zol (n : Nat) : Atom → Bool × Bool := (zA3 n).2
theorem zKS (n : Nat) : zqf (n + 1) = zqq (zol n) := rfl
theorem zF6 (n : Nat) : zol (n + 1) = zly (zqf n) := rfl
theorem zIt : ∀ n, Sound Tryz.prog base 46 (zqe (zqf n)) ∧ Sound Tryz.prog base 103 (zoe (zol n))
 | 0 => ⟨zbj Tryz.call46 (fun _ => rfl), zbj Tryz.call103 (fun _ => rfl)⟩
 | n + 1 => by
  have ih := zIt n
  exact ⟨zHy _ (ih.2), zDd _ (ih.1)⟩
def zhS : List Term → Bool × Bool := zqf 1000
def ref05_Valid_spec : Ab.Spec ty := zqe zhS
theorem zlz : Sound Tryz.prog base 46 ref05_Valid_spec := (zIt 1000).1
def zNH : Cx ty := mkCx base 8 [] [] [] [] [] []
def zB4 (x_ : Atom) : Wy0 (List Term) := .k [TermOf.mk 1 [FactorOf.mk (Atom.mk x_.Kind x_.Row x_.Args x_.Func x_.Items x_.Op x_.Bound) 1]]
def zlU (x_ : Atom) : Bool × List Term := (zB4 x_).fin default
def zE8 (r : List Term) : ARes ty := ⟨[.own 42 r], []⟩
def zIu : AL base (Atom × Unit) := zf (zg (vAgg 48)) aNil
def znn : Ab.Spec ty := zk zIu fun x => ((zlU x.1).1, zE8 (zlU x.1).2)
theorem zpz : Sound Tryz.prog base 63 znn :=
 zo (cx' := zNH) zH zm zy (zn trivial) Tryz.call63 Tryz.func63 (c := body Tryz.f63) (by kernel_rfl) (zh (l := []) (by kernel_rfl) trivial) (sg := ⟨[.own 42], []⟩) (A := zIu) (res := zE8) (W := fun x => zB4 x.1) (z := default)
def zON : Cx ty := mkCx base 3 [] [] [] [] [] []
def zJ8 : Wy0 (List Term) := .k [TermOf.mk 1 []]
def zDE : Bool × List Term := (zJ8).fin default
def zGX (r : List Term) : ARes ty := ⟨[.own 42 r], []⟩
def zKl : AL base (Unit) := aNil
def zsw : Ab.Spec ty := zk zKl fun x => ((zDE ).1, zGX (zDE ).2)
theorem zvG : Sound Tryz.prog base 30 zsw :=
 zo (cx' := zON) zH zm zy (zn trivial) Tryz.call30 Tryz.func30 (c := body Tryz.f30) (by kernel_rfl) (zh (l := []) (by kernel_rfl) trivial) (sg := ⟨[.own 42], []⟩) (A := zKl) (res := zGX) (W := fun x => zJ8 ) (z := default)
def zOd : Cx ty := mkCx base 8 [(102, zvA)] [] [] [] [] []
def zEu (a : List Term) : Wy0 (List Term × Int) := .bn (zsv a) fun r0 => .i (!r0) (.k ([], 6)) (.k (a, 0))
def zl0 (a : List Term) : Bool × (List Term × Int) := (zEu a).fin default
def zG1 (r : List Term × Int) : ARes ty := ⟨[.pure (.sl 42 r.1), .pure (.lit (.int .i64 r.2))], []⟩
def zJ2 : AL base (List Term × Unit) := zf (zg (vSl 42)) aNil
def zl9 : Ab.Spec ty := zk zJ2 fun x => ((zl0 x.1).1, zG1 (zl0 x.1).2)
theorem znl : Sound Tryz.prog base 56 zl9 :=
 zo (cx' := zOd) zH zm zy (zn ⟨zCw, trivial⟩) Tryz.call56 Tryz.func56 (c := body Tryz.f56) (by kernel_rfl) (zh (l := []) (by kernel_rfl) trivial) (sg := ⟨[.pure, .pure], []⟩) (A := zJ2) (res := zG1) (W := fun x => zEu x.1) (z := default)
def zL1 : Cx ty := mkCx base 20 [(30, zsw), (46, ref05_Valid_spec), (56, zl9), (63, znn), (67, zmQ)] [] [] [] [] []
def zxv (a : List Term) : Wy0 (List Term × Int) := .bn (zhS a) fun r2 => .i (!r2) (.k ([], 1)) (.i (Int.ofNat a.length == 0) (.k (zDE.2, 0)) (.bn (zha a) fun r1 => .i (r1) (.k ([], 0)) (.bn (zl0 (zlU (Atom.mk 3 (RowID.mk 0 0) [a] 0 [] 0 (Value.mk 0 0 (ByteArray.mk #[])))).2) fun r0 => .k (r0.1, r0.2))))
def zrs (a : List Term) : Bool × (List Term × Int) := (zxv a).fin default
def zBW (r : List Term × Int) : ARes ty := ⟨[.pure (.sl 42 r.1), .pure (.lit (.int .i64 r.2))], []⟩
def zE7 : AL base (List Term × Unit) := zf (zg (vSl 42)) aNil
def zAH : Ab.Spec ty := zk zE7 fun x => ((zrs x.1).1, zBW (zrs x.1).2)
theorem zJb : Sound Tryz.prog base 23 zAH :=
 zo (cx' := zL1) zH zm zy (zn ⟨zvG, zlz, znl, zpz, zpx, trivial⟩) Tryz.call23 Tryz.func23 (c := body Tryz.f23) (by kernel_rfl) (zh (l := []) (by kernel_rfl) trivial) (sg := ⟨[.pure, .pure], []⟩) (A := zE7) (res := zBW) (W := fun x => zxv x.1) (z := default)
def zNT : Cx ty := mkCx base 9 [] [] [] [] [] []
def zBK (a : Int) (b : Int) : Wy0 (Int) := .k (if 1152921504606846976 < IntKind.i64.wrap (a + b) then 1152921504606846976 else IntKind.i64.wrap (a + b))
def zpP (a : Int) (b : Int) : Bool × Int := (zBK a b).fin default
def zFR (r : Int) : ARes ty := ⟨[.pure (.lit (.int .i64 r))], []⟩
def zI2 : AL base (Int × Int × Unit) := zf (zg (vInt .i64)) (zf (zg (vInt .i64)) aNil)
def zDA : Ab.Spec ty := zk zI2 fun x => ((zpP x.1 x.2.1).1, zFR (zpP x.1 x.2.1).2)
theorem zKt : Sound Tryz.prog base 157 zDA :=
 zo (cx' := zNT) zH zm zy (zn trivial) Tryz.call157 Tryz.func157 (c := body Tryz.f157) (by kernel_rfl) (zh (l := []) (by kernel_rfl) trivial) (sg := ⟨[.pure], []⟩) (A := zI2) (res := zFR) (W := fun x => zBK x.1 x.2.1) (z := default)
abbrev ttTref05Put0 := List Term × Unit × Int × Unit
abbrev ttTref05Put1 := List Term × Int × Term
def zrI (a : List Term) (i : Int) (t : Term) : Wy ttTref05Put0 (Term × Unit) ttTref05Put1 := .i (decide (i < Int.ofNat a.length)) (.i (decide (0 ≤ i) && decide (i < Int.ofNat a.length)) (.bn (zjb (a.getD i.toNat default).Factors t.Factors) fun r0 => .i (decide (r0 < 0)) (.h (a, (), (IntKind.i64.wrap (i + 1)), ()) (t, ())) (.k (a, i, t))) .d) (.k (a, i, t))
def zvx (x : ttTref05Put0) (y : Term × Unit) : Wy ttTref05Put0 (Term × Unit) ttTref05Put1 := zrI x.1 x.2.2.1 y.1
def zIl (n : Nat) (a : List Term) (i : Int) (t : Term) : Bool × ttTref05Put1 := z7 (zvx) default n (a, (), i, ()) (t, ())
def zG8 (r : ttTref05Put1) : LTree ty := .done (.exit 0) [.sl 42 r.1, .ptr 288 0, .lit (.int .i64 r.2.1)] [.box (base.enc 42 r.2.2) false]
def zIN : LL ty ttTref05Put0 := za (lSl 42) (za (zg3 288 0) (za (lInt .i64) zK))
def zI8 : BL ty (Term × Unit) := bBox (ziu (fun x => (⟨x.1, x.2.1⟩ : Term)) (fun x => (x.Coeff, x.Factors, ())) (fun _ => rfl) (za (lInt .i64) (za (lSl 50) zK))) false (bNil)
def zHk (x : ttTref05Put0) (y : Term × Unit) : Nat := ((x.1.length + Int.toNat x.2.2.1 + 1) + y.1.Factors.length)
def zI5 : Cx ty := mkCx base 72 [(89, ref05_CompareFactors_spec), (157, zDA)] [] [(2, [(0, .keep), (3, .keep), (5, .keep)])] [(2, 1, [(0, .keep), (3, .keep), (5, .keep)])] [(2, spW zIN zI8 (zvx) default zG8 zHk)] []
theorem zNP : zY zI5 (lp (body Tryz.f113) 0) := zO (id := 2) (V := zIN) (B := zI8) (W := zvx) (z := default) (tr := zG8) (m := zHk)
def zEp (a : List Term) (t : Term) : Wy0 (List Term) := .bn (zIl ((a.length + Int.toNat 0 + 1) + t.Factors.length) a 0 t) fun r3 => .i (decide ((0 : Int) ≤ (0 : Int)) && decide (0 ≤ r3.2.1) && decide (r3.2.1 ≤ Int.ofNat r3.1.length)) (.i (decide ((0 + (List.take (r3.2.1.toNat - Int.toNat 0) (List.drop (Int.toNat 0) r3.1)).length) * 32 ≤ zV)) (.i (decide (r3.2.1 < Int.ofNat r3.1.length)) (.i (decide (0 ≤ r3.2.1) && decide (r3.2.1 < Int.ofNat r3.1.length)) (.bn (zjb (r3.1.getD r3.2.1.toNat default).Factors r3.2.2.Factors) fun r2 => .i (r2 == 0) (.i (decide (0 ≤ r3.2.1) && decide (r3.2.1 < Int.ofNat r3.1.length)) (.i (decide ((([] ++ List.take (r3.2.1.toNat - Int.toNat 0) (List.drop (Int.toNat 0) r3.1)).length + [TermOf.mk (zpP (r3.1.getD r3.2.1.toNat default).Coeff r3.2.2.Coeff).2 r3.2.2.Factors].length) * 32 ≤ zV)) (.i (decide (0 ≤ IntKind.i64.wrap (r3.2.1 + 1)) && decide (IntKind.i64.wrap (r3.2.1 + 1) ≤ Int.ofNat r3.1.length) && decide (Int.ofNat r3.1.length ≤ Int.ofNat r3.1.length)) (.i (decide ((([] ++ List.take (r3.2.1.toNat - Int.toNat 0) (List.drop (Int.toNat 0) r3.1) ++ [TermOf.mk (zpP (r3.1.getD r3.2.1.toNat default).Coeff r3.2.2.Coeff).2 r3.2.2.Factors]).length + (List.take ((Int.ofNat r3.1.length).toNat - (IntKind.i64.wrap (r3.2.1 + 1)).toNat) (List.drop (IntKind.i64.wrap (r3.2.1 + 1)).toNat r3.1)).length) * 32 ≤ zV)) (.k ([] ++ List.take (r3.2.1.toNat - Int.toNat 0) (List.drop (Int.toNat 0) r3.1) ++ [TermOf.mk (zpP (r3.1.getD r3.2.1.toNat default).Coeff r3.2.2.Coeff).2 r3.2.2.Factors] ++ List.take ((Int.ofNat r3.1.length).toNat - (IntKind.i64.wrap (r3.2.1 + 1)).toNat) (List.drop (IntKind.i64.wrap (r3.2.1 + 1)).toNat r3.1))) .d) .d) .d) .d) (.i (decide ((([] ++ List.take (r3.2.1.toNat - Int.toNat 0) (List.drop (Int.toNat 0) r3.1)).length + [r3.2.2].length) * 32 ≤ zV)) (.i (decide (0 ≤ r3.2.1) && decide (r3.2.1 ≤ Int.ofNat r3.1.length) && decide (Int.ofNat r3.1.length ≤ Int.ofNat r3.1.length)) (.i (decide ((([] ++ List.take (r3.2.1.toNat - Int.toNat 0) (List.drop (Int.toNat 0) r3.1) ++ [r3.2.2]).length + (List.take ((Int.ofNat r3.1.length).toNat - r3.2.1.toNat) (List.drop r3.2.1.toNat r3.1)).length) * 32 ≤ zV)) (.k ([] ++ List.take (r3.2.1.toNat - Int.toNat 0) (List.drop (Int.toNat 0) r3.1) ++ [r3.2.2] ++ List.take ((Int.ofNat r3.1.length).toNat - r3.2.1.toNat) (List.drop r3.2.1.toNat r3.1))) .d) .d) .d)) .d) (.i (decide ((([] ++ List.take (r3.2.1.toNat - Int.toNat 0) (List.drop (Int.toNat 0) r3.1)).length + [r3.2.2].length) * 32 ≤ zV)) (.i (decide (0 ≤ r3.2.1) && decide (r3.2.1 ≤ Int.ofNat r3.1.length) && decide (Int.ofNat r3.1.length ≤ Int.ofNat r3.1.length)) (.i (decide ((([] ++ List.take (r3.2.1.toNat - Int.toNat 0) (List.drop (Int.toNat 0) r3.1) ++ [r3.2.2]).length + (List.take ((Int.ofNat r3.1.length).toNat - r3.2.1.toNat) (List.drop r3.2.1.toNat r3.1)).length) * 32 ≤ zV)) (.k ([] ++ List.take (r3.2.1.toNat - Int.toNat 0) (List.drop (Int.toNat 0) r3.1) ++ [r3.2.2] ++ List.take ((Int.ofNat r3.1.length).toNat - r3.2.1.toNat) (List.drop r3.2.1.toNat r3.1))) .d) .d) .d)) .d) .d
def zuC (a : List Term) (t : Term) : Bool × List Term := (zEp a t).fin default
def zGM (r : List Term) : ARes ty := ⟨[.own 42 r], []⟩
def zJ3 : AL base (List Term × Term × Unit) := zf (zg (vSl 42)) (zf (zg (vAgg 42)) aNil)
def zx6 : Ab.Spec ty := zk zJ3 fun x => ((zuC x.1 x.2.1).1, zGM (zuC x.1 x.2.1).2)
theorem zDC : Sound Tryz.prog base 113 zx6 :=
 zo (cx' := zI5) zH zm zy (zn ⟨zql, zKt, trivial⟩) Tryz.call113 Tryz.func113 (c := body Tryz.f113) (by kernel_rfl) (zh (l := [lp (body Tryz.f113) 0]) (by kernel_rfl) ⟨zNP, trivial⟩) (sg := ⟨[.own 42], []⟩) (A := zJ3) (res := zGM) (W := fun x => zEp x.1 x.2.1) (z := default)
abbrev ttTref05Sum0 := List Term × List Term × Int × Unit
def zrQ (a : List Term) (b : List Term) (i : Int) : Wy ttTref05Sum0 (Unit) (List Term) := .i (decide (i < Int.ofNat b.length)) (.i (decide (0 ≤ i) && decide (i < Int.ofNat b.length)) (.bn (zuC a (b.getD i.toNat default)) fun r0 => .h ((r0), b, (IntKind.i64.wrap (i + 1)), ()) ()) .d) (.k a)
def zwG (x : ttTref05Sum0) (y : Unit) : Wy ttTref05Sum0 (Unit) (List Term) := zrQ x.1 x.2.1 x.2.2.1
def zIk (n : Nat) (a : List Term) (b : List Term) (i : Int) : Bool × List Term := z7 (zwG) default n (a, b, i, ()) ()
def zHf (r : List Term) : LTree ty := .done (.exit 0) [.sl 42 r] []
def zJe : LL ty ttTref05Sum0 := za (lSl 42) (za (lSl 42) (za (lInt .i64) zK))
def zIz : BL ty (Unit) := bNil
def zHh (x : ttTref05Sum0) (y : Unit) : Nat := (x.1.length + x.2.1.length + Int.toNat x.2.2.1 + 1)
def zH5 : Cx ty := mkCx base 19 [(113, zx6)] [] [(2, [(0, .sl 42), (1, .keep), (5, .keep)])] [(2, 1, [(0, .keep)])] [(2, spW zJe zIz (zwG) default zHf zHh)] []
theorem zNR : zY zH5 (lp (body Tryz.f57) 0) := zO (id := 2) (V := zJe) (B := zIz) (W := zwG) (z := default) (tr := zHf) (m := zHh)
def zEE (a : List Term) (b : List Term) : Wy0 (List Term) := .bn (zIk (a.length + b.length + Int.toNat 0 + 1) a b 0) fun r2 => .k r2
def zyo (a : List Term) (b : List Term) : Bool × List Term := (zEE a b).fin default
def zHg (r : List Term) : ARes ty := ⟨[.pure (.sl 42 r)], []⟩
def zJT : AL base (List Term × List Term × Unit) := zf (zg (vSl 42)) (zf (zg (vSl 42)) aNil)
def zFS : Ab.Spec ty := zk zJT fun x => ((zyo x.1 x.2.1).1, zHg (zyo x.1 x.2.1).2)
theorem zLL : Sound Tryz.prog base 57 zFS :=
 zo (cx' := zH5) zH zm zy (zn ⟨zDC, trivial⟩) Tryz.call57 Tryz.func57 (c := body Tryz.f57) (by kernel_rfl) (zh (l := [lp (body Tryz.f57) 0]) (by kernel_rfl) ⟨zNR, trivial⟩) (sg := ⟨[.pure], []⟩) (A := zJT) (res := zHg) (W := fun x => zEE x.1 x.2.1) (z := default)
def zOz : Cx ty := mkCx base 20 [(46, ref05_Valid_spec), (56, zl9), (57, zFS)] [] [] [] [] []
def zEy (a : List Term) (b : List Term) : Wy0 (List Term × Int) := .bn (zhS a) fun r3 => .i (!r3) (.k ([], 1)) (.bn (zhS b) fun r2 => .i (!r2) (.k ([], 1)) (.bn (zyo a b) fun r1 => .bn (zl0 r1) fun r0 => .k (r0.1, r0.2)))
def zyz (a : List Term) (b : List Term) : Bool × (List Term × Int) := (zEy a b).fin default
def zHt (r : List Term × Int) : ARes ty := ⟨[.pure (.sl 42 r.1), .pure (.lit (.int .i64 r.2))], []⟩
def zJR : AL base (List Term × List Term × Unit) := zf (zg (vSl 42)) (zf (zg (vSl 42)) aNil)
def zFy : Ab.Spec ty := zk zJR fun x => ((zyz x.1 x.2.1).1, zHt (zyz x.1 x.2.1).2)
theorem zLS : Sound Tryz.prog base 14 zFy :=
 zo (cx' := zOz) zH zm zy (zn ⟨zlz, znl, zLL, trivial⟩) Tryz.call14 Tryz.func14 (c := body Tryz.f14) (by kernel_rfl) (zh (l := []) (by kernel_rfl) trivial) (sg := ⟨[.pure, .pure], []⟩) (A := zJR) (res := zHt) (W := fun x => zEy x.1 x.2.1) (z := default)
def zMp : Cx ty := mkCx base 9 [] [] [] [] [] []
def zzy (n_ : Int) : Wy0 (List Term) := .i (decide (n_ < 1)) (.k []) (.k [TermOf.mk (if 1152921504606846976 < n_ then 1152921504606846976 else n_) []])
def ztz (n_ : Int) : Bool × List Term := (zzy n_).fin default
def zDB (r : List Term) : ARes ty := ⟨[.own 42 r], []⟩
def zHd : AL base (Int × Unit) := zf (zg (vInt .i64)) aNil
def zBz : Ab.Spec ty := zk zHd fun x => ((ztz x.1).1, zDB (ztz x.1).2)
theorem zJz : Sound Tryz.prog base 26 zBz :=
 zo (cx' := zMp) zH zm zy (zn trivial) Tryz.call26 Tryz.func26 (c := body Tryz.f26) (by kernel_rfl) (zh (l := []) (by kernel_rfl) trivial) (sg := ⟨[.own 42], []⟩) (A := zHd) (res := zDB) (W := fun x => zzy x.1) (z := default)
def zMG : Cx ty := mkCx base 30 [(30, zsw), (46, ref05_Valid_spec), (56, zl9), (63, znn), (66, ztq), (67, zmQ)] [] [] [] [] []
def zzI (a : List Term) : Wy0 (List Term × Int) := .bn (zhS a) fun r4 => .i (!r4) (.k ([], 1)) (.i (Int.ofNat a.length == 0) (.k (a, 0)) (.bn (zmK a) fun r3 => .i (r3) (.k (a, 0)) (.i (Int.ofNat a.length == 1) (.bn (zha a) fun r1 => .i (r1) (.k (zDE.2, 0)) (.bn (zl0 (zlU (Atom.mk 2 (RowID.mk 0 0) [a] 0 [] 0 (Value.mk 0 0 (ByteArray.mk #[])))).2) fun r0 => .k (r0.1, r0.2))) (.bn (zl0 (zlU (Atom.mk 2 (RowID.mk 0 0) [a] 0 [] 0 (Value.mk 0 0 (ByteArray.mk #[])))).2) fun r2 => .k (r2.1, r2.2)))))
def ztT (a : List Term) : Bool × (List Term × Int) := (zzI a).fin default
def zEc (r : List Term × Int) : ARes ty := ⟨[.pure (.sl 42 r.1), .pure (.lit (.int .i64 r.2))], []⟩
def zHl : AL base (List Term × Unit) := zf (zg (vSl 42)) aNil
def zCh : Ab.Spec ty := zk zHl fun x => ((ztT x.1).1, zEc (ztT x.1).2)
theorem zJK : Sound Tryz.prog base 21 zCh :=
 zo (cx' := zMG) zH zm zy (zn ⟨zvG, zlz, znl, zpz, zyZ, zpx, trivial⟩) Tryz.call21 Tryz.func21 (c := body Tryz.f21) (by kernel_rfl) (zh (l := []) (by kernel_rfl) trivial) (sg := ⟨[.pure, .pure], []⟩) (A := zHl) (res := zEc) (W := fun x => zzI x.1) (z := default)
def zBE (r : Int) : ARes ty := ⟨[.pure (.lit (.int .i64 r))], []⟩
def zFs : AL base (List Term × Int × Int × Unit) := zf (zg (vSl 42)) (zf (zg (vInt .i64)) (zf (zg (vInt .i64)) aNil))
def zoG (F : List Term → Int → Int → Bool × Int) : Ab.Spec ty := zk zFs fun x => ((F x.1 x.2.1 x.2.2.1).1, zBE (F x.1 x.2.1 x.2.2.1).2)
abbrev ttTref05weight0 := List Term × Int × Int × Int × Int × Int × Unit × Int × Unit
abbrev ttTref05weight1 := List Term × Int × Int × Int × Int × Int × Atom
abbrev ttTref05weight2 := List Term × Int × Int × Int × Int × Int
abbrev ttTref05weight3 := List Term × Int × Int × Int × Int × Int × Unit
abbrev ttTref05weight4 := List Term × Int × Int × Int × Int
abbrev ttTref05weight5 := List Term × Int × Int × Int × Int × Unit
def zrE (zA : List Term → Int → Int → Bool × Int) (a : List Term) (limit : Int) (deep : Int) (n_ : Int) (i : Int) (k : Int) (j : Int) (x_ : Atom) : Wy ttTref05weight0 (Atom × Unit) ttTref05weight1 := .i (decide (j < Int.ofNat x_.Args.length)) (.i (decide (n_ ≤ limit)) (.i (decide (0 ≤ j) && decide (j < Int.ofNat x_.Args.length)) (.bn (zA (x_.Args.getD j.toNat default) (IntKind.i64.wrap (limit - n_)) (IntKind.i64.wrap (deep - 1))) fun r0 => .h (a, limit, deep, (IntKind.i64.wrap (n_ + r0)), i, k, (), (IntKind.i64.wrap (j + 1)), ()) (x_, ())) .d) (.k (a, limit, deep, n_, i, k, x_))) (.k (a, limit, deep, n_, i, k, x_))
def zsa (zA : List Term → Int → Int → Bool × Int) (x : ttTref05weight0) (y : Atom × Unit) : Wy ttTref05weight0 (Atom × Unit) ttTref05weight1 := zrE zA x.1 x.2.1 x.2.2.1 x.2.2.2.1 x.2.2.2.2.1 x.2.2.2.2.2.1 x.2.2.2.2.2.2.2.1 y.1
def zsc (zA : List Term → Int → Int → Bool × Int) (n : Nat) (a : List Term) (limit : Int) (deep : Int) (n_ : Int) (i : Int) (k : Int) (j : Int) (x_ : Atom) : Bool × ttTref05weight1 := z7 (zsa zA) default n (a, limit, deep, n_, i, k, (), j, ()) (x_, ())
def zxs (r : ttTref05weight1) : LTree ty := .done (.exit 4) [.sl 42 r.1, .lit (.int .i64 r.2.1), .lit (.int .i64 r.2.2.1), .lit (.int .i64 r.2.2.2.1), .lit (.int .i64 r.2.2.2.2.1), .lit (.int .i64 r.2.2.2.2.2.1), .ptr 544 0] [.box (base.enc 48 r.2.2.2.2.2.2) false]
def zy6 : LL ty ttTref05weight0 := za (lSl 42) (za (lInt .i64) (za (lInt .i64) (za (lInt .i64) (za (lInt .i64) (za (lInt .i64) (za (zg3 544 0) (za (lInt .i64) zK)))))))
def zzq : BL ty (Atom × Unit) := bBox (ziu (fun x => (⟨x.1, ⟨x.2.1, x.2.2.1⟩, x.2.2.2.1, x.2.2.2.2.1, x.2.2.2.2.2.1, x.2.2.2.2.2.2.1, ⟨x.2.2.2.2.2.2.2.1, x.2.2.2.2.2.2.2.2.1, x.2.2.2.2.2.2.2.2.2.1⟩⟩ : Atom)) (fun x => (x.Kind, x.Row.Table, x.Row.Seq, x.Args, x.Func, x.Items, x.Op, x.Bound.Kind, x.Bound.Int, x.Bound.Text, ())) (fun _ => rfl) (za (lInt .i64) (za (lInt .i64) (za (lInt .i64) (za (lSl 23) (za (lInt .i64) (za (lSl 52) (za (lInt .i64) (za (lInt .i64) (za (lInt .i64) (za lStr zK))))))))))) false (bNil)
def zrx (zA : List Term → Int → Int → Bool × Int) (a : List Term) (limit : Int) (deep : Int) (n_ : Int) (i : Int) (k : Int) (j : Int) (x_ : Atom) : Wy ttTref05weight0 (Atom × Unit) ttTref05weight2 := .i (decide (j < Int.ofNat x_.Items.length)) (.i (decide (n_ ≤ limit)) (.i (decide (0 ≤ j) && decide (j < Int.ofNat x_.Items.length)) (.i (decide (0 ≤ j) && decide (j < Int.ofNat x_.Items.length)) (.bn (zA (x_.Items.getD j.toNat default).Ann (IntKind.i64.wrap (limit - n_)) (IntKind.i64.wrap (deep - 1))) fun r2 => .h (a, limit, deep, (IntKind.i64.wrap (IntKind.i64.wrap (n_ + Int.ofNat (x_.Items.getD j.toNat default).Value.Text.size) + r2)), i, k, (), (IntKind.i64.wrap (j + 1)), ()) (x_, ())) .d) .d) (.k (a, limit, deep, n_, i, k))) (.k (a, limit, deep, n_, i, k))
def zsl (zA : List Term → Int → Int → Bool × Int) (x : ttTref05weight0) (y : Atom × Unit) : Wy ttTref05weight0 (Atom × Unit) ttTref05weight2 := zrx zA x.1 x.2.1 x.2.2.1 x.2.2.2.1 x.2.2.2.2.1 x.2.2.2.2.2.1 x.2.2.2.2.2.2.2.1 y.1
def zsn (zA : List Term → Int → Int → Bool × Int) (n : Nat) (a : List Term) (limit : Int) (deep : Int) (n_ : Int) (i : Int) (k : Int) (j : Int) (x_ : Atom) : Bool × ttTref05weight2 := z7 (zsl zA) default n (a, limit, deep, n_, i, k, (), j, ()) (x_, ())
def zxf (r : ttTref05weight2) : LTree ty := .done (.exit 6) [.sl 42 r.1, .lit (.int .i64 r.2.1), .lit (.int .i64 r.2.2.1), .lit (.int .i64 r.2.2.2.1), .lit (.int .i64 r.2.2.2.2.1), .lit (.int .i64 r.2.2.2.2.2)] []
def zyv : LL ty ttTref05weight0 := za (lSl 42) (za (lInt .i64) (za (lInt .i64) (za (lInt .i64) (za (lInt .i64) (za (lInt .i64) (za (zg3 544 0) (za (lInt .i64) zK)))))))
def zy5 : BL ty (Atom × Unit) := bBox (ziu (fun x => (⟨x.1, ⟨x.2.1, x.2.2.1⟩, x.2.2.2.1, x.2.2.2.2.1, x.2.2.2.2.2.1, x.2.2.2.2.2.2.1, ⟨x.2.2.2.2.2.2.2.1, x.2.2.2.2.2.2.2.2.1, x.2.2.2.2.2.2.2.2.2.1⟩⟩ : Atom)) (fun x => (x.Kind, x.Row.Table, x.Row.Seq, x.Args, x.Func, x.Items, x.Op, x.Bound.Kind, x.Bound.Int, x.Bound.Text, ())) (fun _ => rfl) (za (lInt .i64) (za (lInt .i64) (za (lInt .i64) (za (lSl 23) (za (lInt .i64) (za (lSl 52) (za (lInt .i64) (za (lInt .i64) (za (lInt .i64) (za lStr zK))))))))))) false (bNil)
def ztk (zA : List Term → Int → Int → Bool × Int) (a : List Term) (limit : Int) (deep : Int) (n_ : Int) (i : Int) (k : Int) : Wy ttTref05weight3 (Unit) ttTref05weight4 := .i (decide (0 ≤ i) && decide (i < Int.ofNat a.length)) (.i (decide (k < Int.ofNat (a.getD i.toNat default).Factors.length)) (.i (decide (n_ ≤ limit)) (.i (decide (0 ≤ i) && decide (i < Int.ofNat a.length)) (.i (decide (0 ≤ k) && decide (k < Int.ofNat (a.getD i.toNat default).Factors.length)) (.bn (zsc zA ((a.length + limit.toNat + deep.toNat + (IntKind.i64.wrap (IntKind.i64.wrap (IntKind.i64.wrap (n_ + Int.ofNat ((a.getD i.toNat default).Factors.getD k.toNat default).Atom.Items.length) + Int.ofNat ((a.getD i.toNat default).Factors.getD k.toNat default).Atom.Args.length) + Int.ofNat ((a.getD i.toNat default).Factors.getD k.toNat default).Atom.Bound.Text.size)).toNat + i.toNat + k.toNat + Int.toNat 0 + 1) + (Atom.mk ((a.getD i.toNat default).Factors.getD k.toNat default).Atom.Kind ((a.getD i.toNat default).Factors.getD k.toNat default).Atom.Row ((a.getD i.toNat default).Factors.getD k.toNat default).Atom.Args ((a.getD i.toNat default).Factors.getD k.toNat default).Atom.Func ((a.getD i.toNat default).Factors.getD k.toNat default).Atom.Items ((a.getD i.toNat default).Factors.getD k.toNat default).Atom.Op ((a.getD i.toNat default).Factors.getD k.toNat default).Atom.Bound).Args.length + (Atom.mk ((a.getD i.toNat default).Factors.getD k.toNat default).Atom.Kind ((a.getD i.toNat default).Factors.getD k.toNat default).Atom.Row ((a.getD i.toNat default).Factors.getD k.toNat default).Atom.Args ((a.getD i.toNat default).Factors.getD k.toNat default).Atom.Func ((a.getD i.toNat default).Factors.getD k.toNat default).Atom.Items ((a.getD i.toNat default).Factors.getD k.toNat default).Atom.Op ((a.getD i.toNat default).Factors.getD k.toNat default).Atom.Bound).Items.length) a limit deep (IntKind.i64.wrap (IntKind.i64.wrap (IntKind.i64.wrap (n_ + Int.ofNat ((a.getD i.toNat default).Factors.getD k.toNat default).Atom.Items.length) + Int.ofNat ((a.getD i.toNat default).Factors.getD k.toNat default).Atom.Args.length) + Int.ofNat ((a.getD i.toNat default).Factors.getD k.toNat default).Atom.Bound.Text.size)) i k 0 (Atom.mk ((a.getD i.toNat default).Factors.getD k.toNat default).Atom.Kind ((a.getD i.toNat default).Factors.getD k.toNat default).Atom.Row ((a.getD i.toNat default).Factors.getD k.toNat default).Atom.Args ((a.getD i.toNat default).Factors.getD k.toNat default).Atom.Func ((a.getD i.toNat default).Factors.getD k.toNat default).Atom.Items ((a.getD i.toNat default).Factors.getD k.toNat default).Atom.Op ((a.getD i.toNat default).Factors.getD k.toNat default).Atom.Bound)) fun r5 => .bn (zsn zA ((r5.1.length + r5.2.1.toNat + r5.2.2.1.toNat + r5.2.2.2.1.toNat + r5.2.2.2.2.1.toNat + r5.2.2.2.2.2.1.toNat + Int.toNat 0 + 1) + (Atom.mk r5.2.2.2.2.2.2.Kind r5.2.2.2.2.2.2.Row r5.2.2.2.2.2.2.Args r5.2.2.2.2.2.2.Func r5.2.2.2.2.2.2.Items r5.2.2.2.2.2.2.Op r5.2.2.2.2.2.2.Bound).Args.length + (Atom.mk r5.2.2.2.2.2.2.Kind r5.2.2.2.2.2.2.Row r5.2.2.2.2.2.2.Args r5.2.2.2.2.2.2.Func r5.2.2.2.2.2.2.Items r5.2.2.2.2.2.2.Op r5.2.2.2.2.2.2.Bound).Items.length) r5.1 r5.2.1 r5.2.2.1 r5.2.2.2.1 r5.2.2.2.2.1 r5.2.2.2.2.2.1 0 (Atom.mk r5.2.2.2.2.2.2.Kind r5.2.2.2.2.2.2.Row r5.2.2.2.2.2.2.Args r5.2.2.2.2.2.2.Func r5.2.2.2.2.2.2.Items r5.2.2.2.2.2.2.Op r5.2.2.2.2.2.2.Bound)) fun r4 => .h ((r4.1), (r4.2.1), (r4.2.2.1), (r4.2.2.2.1), (r4.2.2.2.2.1), (IntKind.i64.wrap (r4.2.2.2.2.2 + 1)), ()) ()) .d) .d) (.k (a, limit, deep, n_, i))) (.k (a, limit, deep, n_, i))) .d
def zto (zA : List Term → Int → Int → Bool × Int) (x : ttTref05weight3) (y : Unit) : Wy ttTref05weight3 (Unit) ttTref05weight4 := ztk zA x.1 x.2.1 x.2.2.1 x.2.2.2.1 x.2.2.2.2.1 x.2.2.2.2.2.1
def ztg (zA : List Term → Int → Int → Bool × Int) (n : Nat) (a : List Term) (limit : Int) (deep : Int) (n_ : Int) (i : Int) (k : Int) : Bool × ttTref05weight4 := z7 (zto zA) default n (a, limit, deep, n_, i, k, ()) ()
def zze (r : ttTref05weight4) : LTree ty := .done (.exit 2) [.sl 42 r.1, .lit (.int .i64 r.2.1), .lit (.int .i64 r.2.2.1), .lit (.int .i64 r.2.2.2.1), .lit (.int .i64 r.2.2.2.2)] []
def zAB : LL ty ttTref05weight3 := za (lSl 42) (za (lInt .i64) (za (lInt .i64) (za (lInt .i64) (za (lInt .i64) (za (lInt .i64) zK)))))
def zAv : BL ty (Unit) := bNil
def ztl (zA : List Term → Int → Int → Bool × Int) (a : List Term) (limit : Int) (deep : Int) (n_ : Int) (i : Int) : Wy ttTref05weight5 (Unit) (Int) := .i (decide (i < Int.ofNat a.length)) (.i (decide (n_ ≤ limit)) (.i (decide (0 ≤ i) && decide (i < Int.ofNat a.length)) (.bn (ztg zA (a.length + limit.toNat + deep.toNat + (IntKind.i64.wrap (IntKind.i64.wrap (n_ + 1) + Int.ofNat (a.getD i.toNat default).Factors.length)).toNat + i.toNat + Int.toNat 0 + 1) a limit deep (IntKind.i64.wrap (IntKind.i64.wrap (n_ + 1) + Int.ofNat (a.getD i.toNat default).Factors.length)) i 0) fun r8 => .h ((r8.1), (r8.2.1), (r8.2.2.1), (r8.2.2.2.1), (IntKind.i64.wrap (r8.2.2.2.2 + 1)), ()) ()) .d) (.k n_)) (.k n_)
def ztp (zA : List Term → Int → Int → Bool × Int) (x : ttTref05weight5) (y : Unit) : Wy ttTref05weight5 (Unit) (Int) := ztl zA x.1 x.2.1 x.2.2.1 x.2.2.2.1 x.2.2.2.2.1
def ztc (zA : List Term → Int → Int → Bool × Int) (n : Nat) (a : List Term) (limit : Int) (deep : Int) (n_ : Int) (i : Int) : Bool × Int := z7 (ztp zA) default n (a, limit, deep, n_, i, ()) ()
def zyA (r : Int) : LTree ty := .done (.exit 0) [.lit (.int .i64 r)] []
def zAc : LL ty ttTref05weight5 := za (lSl 42) (za (lInt .i64) (za (lInt .i64) (za (lInt .i64) (za (lInt .i64) zK))))
def zAd : BL ty (Unit) := bNil
def zwT (x : ttTref05weight0) (y : Atom × Unit) : Nat := ((x.1.length + Int.toNat x.2.1 + Int.toNat x.2.2.1 + Int.toNat x.2.2.2.1 + Int.toNat x.2.2.2.2.1 + Int.toNat x.2.2.2.2.2.1 + Int.toNat x.2.2.2.2.2.2.2.1 + 1) + y.1.Args.length + y.1.Items.length)
def zwV (x : ttTref05weight0) (y : Atom × Unit) : Nat := ((x.1.length + Int.toNat x.2.1 + Int.toNat x.2.2.1 + Int.toNat x.2.2.2.1 + Int.toNat x.2.2.2.2.1 + Int.toNat x.2.2.2.2.2.1 + Int.toNat x.2.2.2.2.2.2.2.1 + 1) + y.1.Args.length + y.1.Items.length)
def zyP (x : ttTref05weight3) (y : Unit) : Nat := (x.1.length + Int.toNat x.2.1 + Int.toNat x.2.2.1 + Int.toNat x.2.2.2.1 + Int.toNat x.2.2.2.2.1 + Int.toNat x.2.2.2.2.2.1 + 1)
def zyX (x : ttTref05weight5) (y : Unit) : Nat := (x.1.length + Int.toNat x.2.1 + Int.toNat x.2.2.1 + Int.toNat x.2.2.2.1 + Int.toNat x.2.2.2.2.1 + 1)
def zlr (zA : List Term → Int → Int → Bool × Int) : Cx ty := mkCx base 136 [(52, (zoG zA))] [] [(5, [(0, .keep), (1, .keep), (2, .keep), (7, .keep), (8, .keep)]), (9, [(0, .keep), (1, .keep), (2, .keep), (7, .keep), (8, .keep), (9, .keep)]), (14, [(0, .keep), (1, .keep), (2, .keep), (7, .keep), (8, .keep), (9, .keep), (10, .keep), (11, .keep)]), (18, [(0, .keep), (1, .keep), (2, .keep), (7, .keep), (8, .keep), (9, .keep), (10, .keep), (12, .keep)])] [(5, 1, [(7, .keep)]), (9, 3, [(0, .keep), (1, .keep), (2, .keep), (7, .keep), (8, .keep)]), (14, 5, [(0, .keep), (1, .keep), (2, .keep), (7, .keep), (8, .keep), (9, .keep), (10, .keep)]), (18, 7, [(0, .keep), (1, .keep), (2, .keep), (7, .keep), (8, .keep), (9, .keep)])] [(14, spW zy6 zzq (zsa zA) default zxs zwT), (18, spW zyv zy5 (zsl zA) default zxf zwV), (9, spW zAB zAv (zto zA) default zze zyP), (5, spW zAc zAd (ztp zA) default zyA zyX)] []
theorem zHE (zA : List Term → Int → Int → Bool × Int) : zY (zlr zA) (lp (body Tryz.f52) 2) := zO (id := 14) (V := zy6) (B := zzq) (W := zsa zA) (z := default) (tr := zxs) (m := zwT)
theorem zHU (zA : List Term → Int → Int → Bool × Int) : zY (zlr zA) (lp (body Tryz.f52) 3) := zO (id := 18) (V := zyv) (B := zy5) (W := zsl zA) (z := default) (tr := zxf) (m := zwV)
theorem zIx (zA : List Term → Int → Int → Bool × Int) : zY (zlr zA) (lp (body Tryz.f52) 1) := zO (id := 9) (V := zAB) (B := zAv) (W := zto zA) (z := default) (tr := zze) (m := zyP)
theorem zIS (zA : List Term → Int → Int → Bool × Int) : zY (zlr zA) (lp (body Tryz.f52) 0) := zO (id := 5) (V := zAc) (B := zAd) (W := ztp zA) (z := default) (tr := zyA) (m := zyX)
def zpA (zA : List Term → Int → Int → Bool × Int) (a : List Term) (limit : Int) (deep : Int) : Wy0 (Int) := .i (deep == 0) (.k (IntKind.i64.wrap (limit + 1))) (.bn (ztc zA (a.length + limit.toNat + deep.toNat + Int.toNat 0 + Int.toNat 0 + 1) a limit deep 0 0) fun r10 => .k r10)
def zoR (zA : List Term → Int → Int → Bool × Int) (a : List Term) (limit : Int) (deep : Int) : Bool × Int := (zpA zA a limit deep).fin default
theorem zGs (zA : List Term → Int → Int → Bool × Int) (zKG : Sound Tryz.prog base 52 (zoG zA)) : Sound Tryz.prog base 52 (zoG (zoR zA)) :=
 zo (cx' := (zlr zA)) zH zm zy (zn ⟨zKG, trivial⟩) Tryz.call52 Tryz.func52 (c := body Tryz.f52) (by kernel_rfl) (zh (l := [lp (body Tryz.f52) 0, lp (body Tryz.f52) 1, lp (body Tryz.f52) 2, lp (body Tryz.f52) 3]) (by kernel_rfl) ⟨zIS zA, zIx zA, zHE zA, zHU zA, trivial⟩) (sg := ⟨[.pure], []⟩) (A := zFs) (res := zBE) (W := fun x => zpA zA x.1 x.2.1 x.2.2.1) (z := default)
def zKj : Nat → (List Term → Int → Int → Bool × Int)
 | 0 => fun _ _ _ => (false, default)
 | n + 1 => zoR (zKj n)
def zme (n : Nat) : List Term → Int → Int → Bool × Int := zKj n
theorem zAe (n : Nat) : zme (n + 1) = zoR (zme n) := rfl
theorem zHp : ∀ n, Sound Tryz.prog base 52 (zoG (zme n))
 | 0 => zbj Tryz.call52 (fun _ => rfl)
 | n + 1 => by
  have ih := zHp n
  exact zGs _ (ih)
def zCx : List Term → Int → Int → Bool × Int := zme 1000
def ref05_weight_spec : Ab.Spec ty := zoG zCx
theorem zIP : Sound Tryz.prog base 52 ref05_weight_spec := (zHp 1000)
abbrev ttTref05Few0 := Int × List (List Term) × Int × Unit
def zB7 (limit : Int) (l : List (List Term)) (i : Int) : Wy ttTref05Few0 (Unit) (Bool ⊕ Unit) := .i (decide (i < Int.ofNat l.length)) (.i (decide (0 ≤ i) && decide (i < Int.ofNat l.length)) (.bn (zCx (l.getD i.toNat default) limit 12) fun r0 => .i (decide (r0 > limit)) (.k (.inl false)) (.h (limit, l, (IntKind.i64.wrap (i + 1)), ()) ())) .d) (.k (.inr ()))
def zBN (x : ttTref05Few0) (y : Unit) : Wy ttTref05Few0 (Unit) (Bool ⊕ Unit) := zB7 x.1 x.2.1 x.2.2.1
def zBB (n : Nat) (limit : Int) (l : List (List Term)) (i : Int) : Bool × (Bool ⊕ Unit) := z7 (zBN) (.inl default) n (limit, l, i, ()) ()
def zG0 (r : Bool ⊕ Unit) : LTree ty := .ite (isL r) (.done .ret [.lit (.bool (getL r))] []) (.done (.exit 0) [] [])
def zIa : LL ty ttTref05Few0 := za (lInt .i64) (za (lSl 23) (za (lInt .i64) zK))
def zIL : BL ty (Unit) := bNil
def zHs (x : ttTref05Few0) (y : Unit) : Nat := (Int.toNat x.1 + x.2.1.length + Int.toNat x.2.2.1 + 1)
def zHY : Cx ty := mkCx base 20 [(52, ref05_weight_spec)] [] [(2, [(0, .keep), (1, .keep), (5, .keep)])] [(2, 1, []), (2, 0, [(4, .keep)])] [(2, spW zIa zIL (zBN) (.inl default) zG0 zHs)] []
theorem zNV : zY zHY (lp (body Tryz.f12) 0) := zO (id := 2) (V := zIa) (B := zIL) (W := zBN) (z := .inl default) (tr := zG0) (m := zHs)
def zEx (limit : Int) (l : List (List Term)) : Wy0 (Bool) := .bn (zBB (limit.toNat + l.length + Int.toNat 0 + 1) limit l 0) fun r2 => .i (isL r2) (.k (getL r2)) (.k true)
def zuV (limit : Int) (l : List (List Term)) : Bool × Bool := (zEx limit l).fin default
def zHw (r : Bool) : ARes ty := ⟨[.pure (.lit (.bool r))], []⟩
def zKs : AL base (Int × List (List Term) × Unit) := zf (zg (vInt .i64)) (zf (zg (vSl 23)) aNil)
def zFE : Ab.Spec ty := zk zKs fun x => ((zuV x.1 x.2.1).1, zHw (zuV x.1 x.2.1).2)
theorem zLP : Sound Tryz.prog base 12 zFE :=
 zo (cx' := zHY) zH zm zy (zn ⟨zIP, trivial⟩) Tryz.call12 Tryz.func12 (c := body Tryz.f12) (by kernel_rfl) (zh (l := [lp (body Tryz.f12) 0]) (by kernel_rfl) ⟨zNV, trivial⟩) (sg := ⟨[.pure], []⟩) (A := zKs) (res := zHw) (W := fun x => zEx x.1 x.2.1) (z := default)
def zMh : Cx ty := mkCx base 34 [(24, znw), (46, ref05_Valid_spec), (56, zl9), (63, znn)] [] [] [] [] []
def zz6 (a : List Term) (b : List Term) : Wy0 (List Term × Int) := .bn (zhS a) fun r3 => .i (!r3) (.k ([], 1)) (.bn (zhS b) fun r2 => .i (!r2) (.k ([], 1)) (.i (Int.ofNat b.length == 0) (.k (a, 0)) (.i (Int.ofNat a.length == 0) (.k ([], 0)) (.bn (zh7 a b) fun r1 => .i (r1) (.k ([], 0)) (.bn (zl0 (zlU (Atom.mk 1 (RowID.mk 0 0) [a, b] 0 [] 0 (Value.mk 0 0 (ByteArray.mk #[])))).2) fun r0 => .k (r0.1, r0.2))))))
def zug (a : List Term) (b : List Term) : Bool × (List Term × Int) := (zz6 a b).fin default
def zDt (r : List Term × Int) : ARes ty := ⟨[.pure (.sl 42 r.1), .pure (.lit (.int .i64 r.2))], []⟩
def zHv : AL base (List Term × List Term × Unit) := zf (zg (vSl 42)) (zf (zg (vSl 42)) aNil)
def zCS : Ab.Spec ty := zk zHv fun x => ((zug x.1 x.2.1).1, zDt (zug x.1 x.2.1).2)
theorem zJG : Sound Tryz.prog base 19 zCS :=
 zo (cx' := zMh) zH zm zy (zn ⟨zpI, zlz, znl, zpz, trivial⟩) Tryz.call19 Tryz.func19 (c := body Tryz.f19) (by kernel_rfl) (zh (l := []) (by kernel_rfl) trivial) (sg := ⟨[.pure, .pure], []⟩) (A := zHv) (res := zDt) (W := fun x => zz6 x.1 x.2.1) (z := default)
abbrev ttTref05factor0 := List Factor × Unit × Int × Unit
abbrev ttTref05factor1 := List Factor × Int × Factor
def znC (l : List Factor) (i : Int) (f : Factor) : Wy ttTref05factor0 (Factor × Unit) ttTref05factor1 := .i (decide (i < Int.ofNat l.length)) (.i (decide (0 ≤ i) && decide (i < Int.ofNat l.length)) (.bn (zjl (Atom.mk (l.getD i.toNat default).Atom.Kind (l.getD i.toNat default).Atom.Row (l.getD i.toNat default).Atom.Args (l.getD i.toNat default).Atom.Func (l.getD i.toNat default).Atom.Items (l.getD i.toNat default).Atom.Op (l.getD i.toNat default).Atom.Bound) (Atom.mk f.Atom.Kind f.Atom.Row f.Atom.Args f.Atom.Func f.Atom.Items f.Atom.Op f.Atom.Bound)) fun r0 => .i (decide (r0 < 0)) (.h (l, (), (IntKind.i64.wrap (i + 1)), ()) (f, ())) (.k (l, i, f))) .d) (.k (l, i, f))
def zrh (x : ttTref05factor0) (y : Factor × Unit) : Wy ttTref05factor0 (Factor × Unit) ttTref05factor1 := znC x.1 x.2.2.1 y.1
def zDS (n : Nat) (l : List Factor) (i : Int) (f : Factor) : Bool × ttTref05factor1 := z7 (zrh) default n (l, (), i, ()) (f, ())
def zC1 (r : ttTref05factor1) : LTree ty := .done (.exit 0) [.sl 50 r.1, .ptr 296 0, .lit (.int .i64 r.2.1)] [.box (base.enc 50 r.2.2) false]
def zDQ : LL ty ttTref05factor0 := za (lSl 50) (za (zg3 296 0) (za (lInt .i64) zK))
def zD3 : BL ty (Factor × Unit) := bBox (ziu (fun x => (⟨⟨x.1, ⟨x.2.1, x.2.2.1⟩, x.2.2.2.1, x.2.2.2.2.1, x.2.2.2.2.2.1, x.2.2.2.2.2.2.1, ⟨x.2.2.2.2.2.2.2.1, x.2.2.2.2.2.2.2.2.1, x.2.2.2.2.2.2.2.2.2.1⟩⟩, x.2.2.2.2.2.2.2.2.2.2.1⟩ : Factor)) (fun x => (x.Atom.Kind, x.Atom.Row.Table, x.Atom.Row.Seq, x.Atom.Args, x.Atom.Func, x.Atom.Items, x.Atom.Op, x.Atom.Bound.Kind, x.Atom.Bound.Int, x.Atom.Bound.Text, x.Exp, ())) (fun _ => rfl) (za (lInt .i64) (za (lInt .i64) (za (lInt .i64) (za (lSl 23) (za (lInt .i64) (za (lSl 52) (za (lInt .i64) (za (lInt .i64) (za (lInt .i64) (za lStr (za (lInt .i64) zK)))))))))))) false (bNil)
def zBp (x : ttTref05factor0) (y : Factor × Unit) : Nat := (x.1.length + Int.toNat x.2.2.1 + y.1.Atom.Args.length + y.1.Atom.Items.length + 1)
def zD2 : Cx ty := mkCx base 74 [(104, ref05_CompareAtom_spec)] [] [(2, [(0, .keep), (3, .keep), (5, .keep)])] [(2, 1, [(0, .keep), (3, .keep), (5, .keep)])] [(2, spW zDQ zD3 (zrh) default zC1 zBp)] []
theorem zKH : zY zD2 (lp (body Tryz.f116) 0) := zO (id := 2) (V := zDQ) (B := zD3) (W := zrh) (z := default) (tr := zC1) (m := zBp)
def zxK (l : List Factor) (f : Factor) : Wy0 (List Factor) := .bn (zDS (l.length + Int.toNat 0 + f.Atom.Args.length + f.Atom.Items.length + 1) l 0 (FactorOf.mk (Atom.mk f.Atom.Kind f.Atom.Row f.Atom.Args f.Atom.Func f.Atom.Items f.Atom.Op f.Atom.Bound) f.Exp)) fun r3 => .i (decide ((0 : Int) ≤ (0 : Int)) && decide (0 ≤ r3.2.1) && decide (r3.2.1 ≤ Int.ofNat r3.1.length)) (.i (decide ((0 + (List.take (r3.2.1.toNat - Int.toNat 0) (List.drop (Int.toNat 0) r3.1)).length) * 128 ≤ zV)) (.i (decide (r3.2.1 < Int.ofNat r3.1.length)) (.i (decide (0 ≤ r3.2.1) && decide (r3.2.1 < Int.ofNat r3.1.length)) (.bn (zjl (Atom.mk (r3.1.getD r3.2.1.toNat default).Atom.Kind (r3.1.getD r3.2.1.toNat default).Atom.Row (r3.1.getD r3.2.1.toNat default).Atom.Args (r3.1.getD r3.2.1.toNat default).Atom.Func (r3.1.getD r3.2.1.toNat default).Atom.Items (r3.1.getD r3.2.1.toNat default).Atom.Op (r3.1.getD r3.2.1.toNat default).Atom.Bound) (Atom.mk r3.2.2.Atom.Kind r3.2.2.Atom.Row r3.2.2.Atom.Args r3.2.2.Atom.Func r3.2.2.Atom.Items r3.2.2.Atom.Op r3.2.2.Atom.Bound)) fun r2 => .i (r2 == 0) (.i (decide (r3.2.2.Atom.Kind < 3)) (.i (decide (0 ≤ r3.2.1) && decide (r3.2.1 < Int.ofNat r3.1.length)) (.i (decide ((([] ++ List.take (r3.2.1.toNat - Int.toNat 0) (List.drop (Int.toNat 0) r3.1)).length + [FactorOf.mk (Atom.mk r3.2.2.Atom.Kind r3.2.2.Atom.Row r3.2.2.Atom.Args r3.2.2.Atom.Func r3.2.2.Atom.Items r3.2.2.Atom.Op r3.2.2.Atom.Bound) (IntKind.i64.wrap ((r3.1.getD r3.2.1.toNat default).Exp + r3.2.2.Exp))].length) * 128 ≤ zV)) (.i (decide (0 ≤ IntKind.i64.wrap (r3.2.1 + 1)) && decide (IntKind.i64.wrap (r3.2.1 + 1) ≤ Int.ofNat r3.1.length) && decide (Int.ofNat r3.1.length ≤ Int.ofNat r3.1.length)) (.i (decide ((([] ++ List.take (r3.2.1.toNat - Int.toNat 0) (List.drop (Int.toNat 0) r3.1) ++ [FactorOf.mk (Atom.mk r3.2.2.Atom.Kind r3.2.2.Atom.Row r3.2.2.Atom.Args r3.2.2.Atom.Func r3.2.2.Atom.Items r3.2.2.Atom.Op r3.2.2.Atom.Bound) (IntKind.i64.wrap ((r3.1.getD r3.2.1.toNat default).Exp + r3.2.2.Exp))]).length + (List.take ((Int.ofNat r3.1.length).toNat - (IntKind.i64.wrap (r3.2.1 + 1)).toNat) (List.drop (IntKind.i64.wrap (r3.2.1 + 1)).toNat r3.1)).length) * 128 ≤ zV)) (.k ([] ++ List.take (r3.2.1.toNat - Int.toNat 0) (List.drop (Int.toNat 0) r3.1) ++ [FactorOf.mk (Atom.mk r3.2.2.Atom.Kind r3.2.2.Atom.Row r3.2.2.Atom.Args r3.2.2.Atom.Func r3.2.2.Atom.Items r3.2.2.Atom.Op r3.2.2.Atom.Bound) (IntKind.i64.wrap ((r3.1.getD r3.2.1.toNat default).Exp + r3.2.2.Exp))] ++ List.take ((Int.ofNat r3.1.length).toNat - (IntKind.i64.wrap (r3.2.1 + 1)).toNat) (List.drop (IntKind.i64.wrap (r3.2.1 + 1)).toNat r3.1))) .d) .d) .d) .d) (.i (decide ((([] ++ List.take (r3.2.1.toNat - Int.toNat 0) (List.drop (Int.toNat 0) r3.1)).length + [FactorOf.mk (Atom.mk r3.2.2.Atom.Kind r3.2.2.Atom.Row r3.2.2.Atom.Args r3.2.2.Atom.Func r3.2.2.Atom.Items r3.2.2.Atom.Op r3.2.2.Atom.Bound) r3.2.2.Exp].length) * 128 ≤ zV)) (.i (decide (0 ≤ IntKind.i64.wrap (r3.2.1 + 1)) && decide (IntKind.i64.wrap (r3.2.1 + 1) ≤ Int.ofNat r3.1.length) && decide (Int.ofNat r3.1.length ≤ Int.ofNat r3.1.length)) (.i (decide ((([] ++ List.take (r3.2.1.toNat - Int.toNat 0) (List.drop (Int.toNat 0) r3.1) ++ [FactorOf.mk (Atom.mk r3.2.2.Atom.Kind r3.2.2.Atom.Row r3.2.2.Atom.Args r3.2.2.Atom.Func r3.2.2.Atom.Items r3.2.2.Atom.Op r3.2.2.Atom.Bound) r3.2.2.Exp]).length + (List.take ((Int.ofNat r3.1.length).toNat - (IntKind.i64.wrap (r3.2.1 + 1)).toNat) (List.drop (IntKind.i64.wrap (r3.2.1 + 1)).toNat r3.1)).length) * 128 ≤ zV)) (.k ([] ++ List.take (r3.2.1.toNat - Int.toNat 0) (List.drop (Int.toNat 0) r3.1) ++ [FactorOf.mk (Atom.mk r3.2.2.Atom.Kind r3.2.2.Atom.Row r3.2.2.Atom.Args r3.2.2.Atom.Func r3.2.2.Atom.Items r3.2.2.Atom.Op r3.2.2.Atom.Bound) r3.2.2.Exp] ++ List.take ((Int.ofNat r3.1.length).toNat - (IntKind.i64.wrap (r3.2.1 + 1)).toNat) (List.drop (IntKind.i64.wrap (r3.2.1 + 1)).toNat r3.1))) .d) .d) .d)) (.i (decide ((([] ++ List.take (r3.2.1.toNat - Int.toNat 0) (List.drop (Int.toNat 0) r3.1)).length + [FactorOf.mk (Atom.mk r3.2.2.Atom.Kind r3.2.2.Atom.Row r3.2.2.Atom.Args r3.2.2.Atom.Func r3.2.2.Atom.Items r3.2.2.Atom.Op r3.2.2.Atom.Bound) r3.2.2.Exp].length) * 128 ≤ zV)) (.i (decide (0 ≤ r3.2.1) && decide (r3.2.1 ≤ Int.ofNat r3.1.length) && decide (Int.ofNat r3.1.length ≤ Int.ofNat r3.1.length)) (.i (decide ((([] ++ List.take (r3.2.1.toNat - Int.toNat 0) (List.drop (Int.toNat 0) r3.1) ++ [FactorOf.mk (Atom.mk r3.2.2.Atom.Kind r3.2.2.Atom.Row r3.2.2.Atom.Args r3.2.2.Atom.Func r3.2.2.Atom.Items r3.2.2.Atom.Op r3.2.2.Atom.Bound) r3.2.2.Exp]).length + (List.take ((Int.ofNat r3.1.length).toNat - r3.2.1.toNat) (List.drop r3.2.1.toNat r3.1)).length) * 128 ≤ zV)) (.k ([] ++ List.take (r3.2.1.toNat - Int.toNat 0) (List.drop (Int.toNat 0) r3.1) ++ [FactorOf.mk (Atom.mk r3.2.2.Atom.Kind r3.2.2.Atom.Row r3.2.2.Atom.Args r3.2.2.Atom.Func r3.2.2.Atom.Items r3.2.2.Atom.Op r3.2.2.Atom.Bound) r3.2.2.Exp] ++ List.take ((Int.ofNat r3.1.length).toNat - r3.2.1.toNat) (List.drop r3.2.1.toNat r3.1))) .d) .d) .d)) .d) (.i (decide ((([] ++ List.take (r3.2.1.toNat - Int.toNat 0) (List.drop (Int.toNat 0) r3.1)).length + [FactorOf.mk (Atom.mk r3.2.2.Atom.Kind r3.2.2.Atom.Row r3.2.2.Atom.Args r3.2.2.Atom.Func r3.2.2.Atom.Items r3.2.2.Atom.Op r3.2.2.Atom.Bound) r3.2.2.Exp].length) * 128 ≤ zV)) (.i (decide (0 ≤ r3.2.1) && decide (r3.2.1 ≤ Int.ofNat r3.1.length) && decide (Int.ofNat r3.1.length ≤ Int.ofNat r3.1.length)) (.i (decide ((([] ++ List.take (r3.2.1.toNat - Int.toNat 0) (List.drop (Int.toNat 0) r3.1) ++ [FactorOf.mk (Atom.mk r3.2.2.Atom.Kind r3.2.2.Atom.Row r3.2.2.Atom.Args r3.2.2.Atom.Func r3.2.2.Atom.Items r3.2.2.Atom.Op r3.2.2.Atom.Bound) r3.2.2.Exp]).length + (List.take ((Int.ofNat r3.1.length).toNat - r3.2.1.toNat) (List.drop r3.2.1.toNat r3.1)).length) * 128 ≤ zV)) (.k ([] ++ List.take (r3.2.1.toNat - Int.toNat 0) (List.drop (Int.toNat 0) r3.1) ++ [FactorOf.mk (Atom.mk r3.2.2.Atom.Kind r3.2.2.Atom.Row r3.2.2.Atom.Args r3.2.2.Atom.Func r3.2.2.Atom.Items r3.2.2.Atom.Op r3.2.2.Atom.Bound) r3.2.2.Exp] ++ List.take ((Int.ofNat r3.1.length).toNat - r3.2.1.toNat) (List.drop r3.2.1.toNat r3.1))) .d) .d) .d)) .d) .d
def zrw (l : List Factor) (f : Factor) : Bool × List Factor := (zxK l f).fin default
def zC4 (r : List Factor) : ARes ty := ⟨[.pure (.sl 50 r)], []⟩
def zFn : AL base (List Factor × Factor × Unit) := zf (zg (vSl 50)) (zf (zg (vAgg 50)) aNil)
def zAD : Ab.Spec ty := zk zFn fun x => ((zrw x.1 x.2.1).1, zC4 (zrw x.1 x.2.1).2)
theorem zI9 : Sound Tryz.prog base 116 zAD :=
 zo (cx' := zD2) zH zm zy (zn ⟨zsT, trivial⟩) Tryz.call116 Tryz.func116 (c := body Tryz.f116) (by kernel_rfl) (zh (l := [lp (body Tryz.f116) 0]) (by kernel_rfl) ⟨zKH, trivial⟩) (sg := ⟨[.pure], []⟩) (A := zFn) (res := zC4) (W := fun x => zxK x.1 x.2.1) (z := default)
def zL9 : Cx ty := mkCx base 12 [] [] [] [] [] []
def zzJ (a : Int) (b : Int) : Wy0 (Int) := .i (!decide (b = 0)) (.i (decide (a > IntKind.i64.wrap (Int.tdiv 1152921504606846976 b))) (.k 1152921504606846976) (.k (IntKind.i64.wrap (a * b)))) .d
def ztE (a : Int) (b : Int) : Bool × Int := (zzJ a b).fin default
def zDy (r : Int) : ARes ty := ⟨[.pure (.lit (.int .i64 r))], []⟩
def zG6 : AL base (Int × Int × Unit) := zf (zg (vInt .i64)) (zf (zg (vInt .i64)) aNil)
def zCq : Ab.Spec ty := zk zG6 fun x => ((ztE x.1 x.2.1).1, zDy (ztE x.1 x.2.1).2)
theorem zJD : Sound Tryz.prog base 115 zCq :=
 zo (cx' := zL9) zH zm zy (zn trivial) Tryz.call115 Tryz.func115 (c := body Tryz.f115) (by kernel_rfl) (zh (l := []) (by kernel_rfl) trivial) (sg := ⟨[.pure], []⟩) (A := zG6) (res := zDy) (W := fun x => zzJ x.1 x.2.1) (z := default)
abbrev ttTref05Product0 := List Term × List Term × Unit × Int × Int × Unit × Int × Unit
abbrev ttTref05Product1 := List Term × (Int × List Factor × Unit) × Unit
abbrev ttTref05Product2 := List Term × List Term × Int × Int × List Term × Int × List Factor
abbrev ttTref05Product3 := List Term × List Term × Unit × Int × Int × Unit
abbrev ttTref05Product4 := List Term × Unit
abbrev ttTref05Product5 := List Term × List Term × Int × List Term
abbrev ttTref05Product6 := List Term × List Term × Unit × Int × Unit
def zlx (a : List Term) (b : List Term) (i : Int) (k : Int) (j : Int) (out_ : List Term) (t_0 : Int) (t_1 : List Factor) : Wy ttTref05Product0 ttTref05Product1 ttTref05Product2 := .i (decide (0 ≤ k) && decide (k < Int.ofNat b.length)) (.i (decide (j < Int.ofNat (b.getD k.toNat default).Factors.length)) (.i (decide (0 ≤ k) && decide (k < Int.ofNat b.length)) (.i (decide (0 ≤ j) && decide (j < Int.ofNat (b.getD k.toNat default).Factors.length)) (.bn (zrw t_1 (FactorOf.mk (Atom.mk ((b.getD k.toNat default).Factors.getD j.toNat default).Atom.Kind ((b.getD k.toNat default).Factors.getD j.toNat default).Atom.Row ((b.getD k.toNat default).Factors.getD j.toNat default).Atom.Args ((b.getD k.toNat default).Factors.getD j.toNat default).Atom.Func ((b.getD k.toNat default).Factors.getD j.toNat default).Atom.Items ((b.getD k.toNat default).Factors.getD j.toNat default).Atom.Op ((b.getD k.toNat default).Factors.getD j.toNat default).Atom.Bound) ((b.getD k.toNat default).Factors.getD j.toNat default).Exp)) fun r0 => .h (a, b, (), i, k, (), (IntKind.i64.wrap (j + 1)), ()) (out_, (t_0, (r0), ()), ())) .d) .d) (.k (a, b, i, k, out_, t_0, t_1))) .d
def zoi (x : ttTref05Product0) (y : ttTref05Product1) : Wy ttTref05Product0 ttTref05Product1 ttTref05Product2 := zlx x.1 x.2.1 x.2.2.2.1 x.2.2.2.2.1 x.2.2.2.2.2.2.1 y.1 y.2.1.1 y.2.1.2.1
def zAC (n : Nat) (a : List Term) (b : List Term) (i : Int) (k : Int) (j : Int) (out_ : List Term) (t_0 : Int) (t_1 : List Factor) : Bool × ttTref05Product2 := z7 (zoi) default n (a, b, (), i, k, (), j, ()) (out_, (t_0, t_1, ()), ())
def zzm (r : ttTref05Product2) : LTree ty := .done (.exit 4) [.sl 42 r.1, .sl 42 r.2.1, .own 264, .lit (.int .i64 r.2.2.1), .lit (.int .i64 r.2.2.2.1), .ptr 265 0] [.arr 42 r.2.2.2.2.1 false, .box ([.lit (.int .i64 r.2.2.2.2.2.1), .sl 50 r.2.2.2.2.2.2]) false]
def zAg : LL ty ttTref05Product0 := za (lSl 42) (za (lSl 42) (za (lOwn 264) (za (lInt .i64) (za (lInt .i64) (za (zg3 265 0) (za (lInt .i64) zK))))))
def zAP : BL ty ttTref05Product1 := bArr 42 false (bBox (za (lInt .i64) (za (lSl 50) zK)) false (bNil))
def zmE (a : List Term) (b : List Term) (i : Int) (k : Int) (out_ : List Term) : Wy ttTref05Product3 ttTref05Product4 ttTref05Product5 := .i (decide (k < Int.ofNat b.length)) (.i (decide (0 ≤ i) && decide (i < Int.ofNat a.length)) (.i (decide (0 ≤ k) && decide (k < Int.ofNat b.length)) (.bn (ztE (a.getD i.toNat default).Coeff (b.getD k.toNat default).Coeff) fun r4 => .i (decide (0 ≤ i) && decide (i < Int.ofNat a.length)) (.bn (zAC ((a.length + b.length + i.toNat + k.toNat + Int.toNat 0 + out_.length + r4.toNat + (a.getD i.toNat default).Factors.length + 1) + szTs a + szTs b + szTs out_ + szFs (a.getD i.toNat default).Factors) a b i k 0 out_ r4 (a.getD i.toNat default).Factors) fun r3 => .bn (zuC r3.2.2.2.2.1 (TermOf.mk r3.2.2.2.2.2.1 r3.2.2.2.2.2.2)) fun r2 => .h ((r3.1), (r3.2.1), (), (r3.2.2.1), (IntKind.i64.wrap (r3.2.2.2.1 + 1)), ()) ((r2), ())) .d) .d) .d) (.k (a, b, i, out_))
def zpT (x : ttTref05Product3) (y : ttTref05Product4) : Wy ttTref05Product3 ttTref05Product4 ttTref05Product5 := zmE x.1 x.2.1 x.2.2.2.1 x.2.2.2.2.1 y.1
def zB9 (n : Nat) (a : List Term) (b : List Term) (i : Int) (k : Int) (out_ : List Term) : Bool × ttTref05Product5 := z7 (zpT) default n (a, b, (), i, k, ()) (out_, ())
def zAn (r : ttTref05Product5) : LTree ty := .done (.exit 2) [.sl 42 r.1, .sl 42 r.2.1, .own 264, .lit (.int .i64 r.2.2.1)] [.arr 42 r.2.2.2 false]
def zCC : LL ty ttTref05Product3 := za (lSl 42) (za (lSl 42) (za (lOwn 264) (za (lInt .i64) (za (lInt .i64) zK))))
def zCz : BL ty ttTref05Product4 := bArr 42 false (bNil)
def zmI (a : List Term) (b : List Term) (i : Int) (out_ : List Term) : Wy ttTref05Product6 ttTref05Product4 (List Term) := .i (decide (i < Int.ofNat a.length)) (.bn (zB9 ((a.length + b.length + i.toNat + Int.toNat 0 + out_.length + 1) + szTs a + szTs b + szTs out_) a b i 0 out_) fun r8 => .h ((r8.1), (r8.2.1), (), (IntKind.i64.wrap (r8.2.2.1 + 1)), ()) ((r8.2.2.2), ())) (.k out_)
def zpM (x : ttTref05Product6) (y : ttTref05Product4) : Wy ttTref05Product6 ttTref05Product4 (List Term) := zmI x.1 x.2.1 x.2.2.2.1 y.1
def zC2 (n : Nat) (a : List Term) (b : List Term) (i : Int) (out_ : List Term) : Bool × List Term := z7 (zpM) default n (a, b, (), i, ()) (out_, ())
def zAx (r : List Term) : LTree ty := .done (.exit 0) [.own 264] [.arr 42 r false]
def zCc : LL ty ttTref05Product6 := za (lSl 42) (za (lSl 42) (za (lOwn 264) (za (lInt .i64) zK)))
def zCm : BL ty ttTref05Product4 := bArr 42 false (bNil)
def zyF (x : ttTref05Product0) (y : ttTref05Product1) : Nat := ((x.1.length + x.2.1.length + Int.toNat x.2.2.2.1 + Int.toNat x.2.2.2.2.1 + Int.toNat x.2.2.2.2.2.2.1 + y.1.length + Int.toNat y.2.1.1 + y.2.1.2.1.length + 1) + szTs x.1 + szTs x.2.1 + szTs y.1 + szFs y.2.1.2.1)
def zAr (x : ttTref05Product3) (y : ttTref05Product4) : Nat := ((x.1.length + x.2.1.length + Int.toNat x.2.2.2.1 + Int.toNat x.2.2.2.2.1 + y.1.length + 1) + szTs x.1 + szTs x.2.1 + szTs y.1)
def zAJ (x : ttTref05Product6) (y : ttTref05Product4) : Nat := ((x.1.length + x.2.1.length + Int.toNat x.2.2.2.1 + y.1.length + 1) + szTs x.1 + szTs x.2.1 + szTs y.1)
def zpJ : Cx ty := mkCx base 66 [(113, zx6), (115, zCq), (116, zAD)] [] [(3, [(0, .keep), (1, .keep), (5, .keep), (6, .keep)]), (6, [(0, .keep), (1, .keep), (5, .keep), (6, .keep), (7, .keep)]), (10, [(0, .keep), (1, .keep), (5, .keep), (6, .keep), (7, .keep), (8, .keep), (9, .keep)])] [(3, 1, [(5, .keep)]), (6, 3, [(0, .keep), (1, .keep), (5, .keep), (6, .keep)]), (10, 5, [(0, .keep), (1, .keep), (5, .keep), (6, .keep), (7, .keep), (8, .keep)])] [(10, spW zAg zAP (zoi) default zzm zyF), (6, spW zCC zCz (zpT) default zAn zAr), (3, spW zCc zCm (zpM) default zAx zAJ)] []
theorem zIU : zY zpJ (lp (body Tryz.f60) 2) := zO (id := 10) (V := zAg) (B := zAP) (W := zoi) (z := default) (tr := zzm) (m := zyF)
theorem zJJ : zY zpJ (lp (body Tryz.f60) 1) := zO (id := 6) (V := zCC) (B := zCz) (W := zpT) (z := default) (tr := zAn) (m := zAr)
theorem zJE : zY zpJ (lp (body Tryz.f60) 0) := zO (id := 3) (V := zCc) (B := zCm) (W := zpM) (z := default) (tr := zAx) (m := zAJ)
def zvP (a : List Term) (b : List Term) : Wy0 (List Term) := .bn (zC2 ((a.length + b.length + Int.toNat 0 + 0 + 1) + szTs a + szTs b + szTs []) a b 0 []) fun r10 => .k r10
def zqu (a : List Term) (b : List Term) : Bool × List Term := (zvP a b).fin default
def zAE (r : List Term) : ARes ty := ⟨[.own 42 r], []⟩
def zDw : AL base (List Term × List Term × Unit) := zf (zg (vSl 42)) (zf (zg (vSl 42)) aNil)
def zzv : Ab.Spec ty := zk zDw fun x => ((zqu x.1 x.2.1).1, zAE (zqu x.1 x.2.1).2)
theorem zHL : Sound Tryz.prog base 60 zzv :=
 zo (cx' := zpJ) zH zm zy (zn ⟨zDC, zJD, zI9, trivial⟩) Tryz.call60 Tryz.func60 (c := body Tryz.f60) (by kernel_rfl) (zh (l := [lp (body Tryz.f60) 0, lp (body Tryz.f60) 1, lp (body Tryz.f60) 2]) (by kernel_rfl) ⟨zJE, zJJ, zIU, trivial⟩) (sg := ⟨[.own 42], []⟩) (A := zDw) (res := zAE) (W := fun x => zvP x.1 x.2.1) (z := default)
def zOe : Cx ty := mkCx base 20 [(46, ref05_Valid_spec), (56, zl9), (60, zzv)] [] [] [] [] []
def zEq (a : List Term) (b : List Term) : Wy0 (List Term × Int) := .bn (zhS a) fun r3 => .i (!r3) (.k ([], 1)) (.bn (zhS b) fun r2 => .i (!r2) (.k ([], 1)) (.bn (zqu a b) fun r1 => .bn (zl0 r1) fun r0 => .k (r0.1, r0.2)))
def zzo (a : List Term) (b : List Term) : Bool × (List Term × Int) := (zEq a b).fin default
def zHa (r : List Term × Int) : ARes ty := ⟨[.pure (.sl 42 r.1), .pure (.lit (.int .i64 r.2))], []⟩
def zKm : AL base (List Term × List Term × Unit) := zf (zg (vSl 42)) (zf (zg (vSl 42)) aNil)
def zEV : Ab.Spec ty := zk zKm fun x => ((zzo x.1 x.2.1).1, zHa (zzo x.1 x.2.1).2)
theorem zK1 : Sound Tryz.prog base 17 zEV :=
 zo (cx' := zOe) zH zm zy (zn ⟨zlz, znl, zHL, trivial⟩) Tryz.call17 Tryz.func17 (c := body Tryz.f17) (by kernel_rfl) (zh (l := []) (by kernel_rfl) trivial) (sg := ⟨[.pure, .pure], []⟩) (A := zKm) (res := zHa) (W := fun x => zEq x.1 x.2.1) (z := default)
def zPo : Cx ty := mkCx base 14 [(63, znn)] [] [] [] [] []
def zEl (id : RowID) : Wy0 (List Term) := .i (decide (id.Table < 1)) (.k []) (.i (decide (id.Seq < 1)) (.k []) (.k ((zlU (Atom.mk 0 id [] 0 [] 0 (Value.mk 0 0 (ByteArray.mk #[])))).2)))
def zyg (id : RowID) : Bool × List Term := (zEl id).fin default
def zGY (r : List Term) : ARes ty := ⟨[.own 42 r], []⟩
def zKr : AL base (RowID × Unit) := zf (zg (vAgg 25)) aNil
def zE1 : Ab.Spec ty := zk zKr fun x => ((zyg x.1).1, zGY (zyg x.1).2)
theorem zLx : Sound Tryz.prog base 28 zE1 :=
 zo (cx' := zPo) zH zm zy (zn ⟨zpz, trivial⟩) Tryz.call28 Tryz.func28 (c := body Tryz.f28) (by kernel_rfl) (zh (l := []) (by kernel_rfl) trivial) (sg := ⟨[.own 42], []⟩) (A := zKr) (res := zGY) (W := fun x => zEl x.1) (z := default)
def zwO : Cx ty := mkCx base0 124 [(11, zCk), (12, zFE), (13, zmM), (14, zFy), (15, zD1), (16, zmO), (17, zEV), (18, zk3), (19, zCS), (20, zkT), (21, zCh), (22, znI), (23, zAH), (24, znw), (25, zkW), (26, zBz), (27, zmP), (28, zE1), (29, zjU), (30, zsw)] [] [] [] [] []
def zj4 (a : List Term) (b : List Term) (n_ : Int) (id : RowID) : Wy0 (Bool) := .bn (zuV 60 [a, b]) fun r21 => .i (!r21) (.k true) (.bn (zmk a b) fun r20 => .bn (zyz a b) fun r19 => .bn (zkh r20.1 r20.2 r19.1 r19.2) fun r18 => .i (!r18) (.k false) (.bn (zmm a b) fun r17 => .bn (zzo a b) fun r16 => .bn (zkh r17.1 r17.2 r16.1 r16.2) fun r15 => .i (!r15) (.k false) (.bn (zj6 a b) fun r14 => .bn (zug a b) fun r13 => .bn (zkh r14.1 r14.2 r13.1 r13.2) fun r12 => .i (!r12) (.k false) (.bn (zj5 a) fun r11 => .bn (ztT a) fun r10 => .bn (zkh r11.1 r11.2 r10.1 r10.2) fun r9 => .i (!r9) (.k false) (.bn (zjo a) fun r8 => .bn (zrs a) fun r7 => .bn (zkh r8.1 r8.2 r7.1 r7.2) fun r6 => .i (r6) (.bn (zj9 n_) fun r5 => .bn (ztz n_) fun r4 => .bn (zh7 r5 r4) fun r3 => .i (r3) (.bn (zl8 id) fun r2 => .bn (zyg id) fun r1 => .bn (zh7 r2 r1) fun r0 => .i (r0) (.k true) (.k false)) (.k false)) (.k false))))))
def zdY (a : List Term) (b : List Term) (n_ : Int) (id : RowID) : Bool × Bool := (zj4 a b n_ id).fin default
def zi9 (r : Bool) : ARes ty := ⟨[.pure (.lit (.bool r))], []⟩
def zoN : AL base0 (List Term × List Term × Int × RowID × Unit) := zf (zg (vSl 42)) (zf (zg (vSl 42)) (zf (zg (vInt .i64)) (zf (zg (vAgg 25)) aNil)))
def zix : Ab.Spec ty := zk zoN fun x => ((zdY x.1 x.2.1 x.2.2.1 x.2.2.2.1).1, zi9 (zdY x.1 x.2.1 x.2.2.1 x.2.2.2.1).2)
theorem zur : Sound Tryz.prog base0 3 zix :=
 zo (cx' := zwO) zH zib zy (zn ⟨zJB, zLP.nodr, zpr, zLS.nodr, zKx.nodr, zpS, zK1.nodr, znO.nodr, zJG.nodr, znQ.nodr, zJK.nodr, zsV.nodr, zJb.nodr, zpI.nodr, znZ.nodr, zJz.nodr, zps.nodr, zLx.nodr, zlY.nodr, zvG.nodr, trivial⟩) Tryz.call3 Tryz.func3 (c := body Tryz.f3) (by kernel_rfl) (zh (l := []) (by kernel_rfl) trivial) (sg := ⟨[.pure], []⟩) (A := zoN) (res := zi9) (W := fun x => zj4 x.1 x.2.1 x.2.2.1 x.2.2.2.1) (z := default)
def trV (v : Value) : TT := .l [.i v.Kind, .i v.Int, trB v.Text]
mutual
def zdw : Atom → TT
 | ⟨k, r, a, f, i, o, b⟩ => .l [.i k, .i r.Table, .i r.Seq, .l (zqt a), .i f, .l (zf0 i), .i o, trV b]
def zmw : Factor → TT
 | ⟨x, e⟩ => .l [zdw x, .i e]
def zbw : List Factor → List TT
 | [] => []
 | x :: r => zmw x :: zbw r
def zsg : Term → TT
 | ⟨c, fs⟩ => .l [.l (zbw fs), .i c]
def zcL : List Term → List TT
 | [] => []
 | x :: r => zsg x :: zcL r
def zqt : List (List Term) → List TT
 | [] => []
 | x :: r => .l (zcL x) :: zqt r
def zeY : Weighted → TT
 | ⟨v, a⟩ => .l [trV v, .l (zcL a)]
def zf0 : List Weighted → List TT
 | [] => []
 | x :: r => zeY x :: zf0 r
end
theorem zqb : ∀ l, zbw l = l.map zmw
 | [] => by rw [zbw]; rfl
 | x :: r => by rw [zbw, zqb r]; rfl
theorem zyn : ∀ l, zcL l = l.map zsg
 | [] => by rw [zcL]; rfl
 | x :: r => by rw [zcL, zyn r]; rfl
theorem zwo : ∀ l, zqt l = l.map fun x => .l (zcL x)
 | [] => by rw [zqt]; rfl
 | x :: r => by rw [zqt, zwo r]; rfl
theorem znV : ∀ l, zf0 l = l.map zeY
 | [] => by rw [zf0]; rfl
 | x :: r => by rw [zf0, znV r]; rfl
theorem zzE : ∀ a b : List UInt8, (a.map fun x => TT.i (x.toNat : Int)) = (b.map fun x => TT.i (x.toNat : Int)) → a = b
 | [], [] => fun _ => rfl
 | [], _ :: _ => fun h => by simp at h
 | _ :: _, [] => fun h => by simp at h
 | x :: a, y :: b => fun h => by
  simp only [List.map, List.cons.injEq, TT.i.injEq] at h
  rw [zzE a b h.2, UInt8.toNat_inj.1 (Int.ofNat.inj h.1)]
theorem zP8 {a b : Value} (h : trV a = trV b) : a = b := by
 obtain ⟨k, n, s⟩ := a; obtain ⟨k', n', s'⟩ := b
 simp only [trV, trB, TT.l.injEq, List.cons.injEq, TT.i.injEq, and_true] at h
 obtain ⟨rfl, rfl, h⟩ := h
 have := zzE _ _ h
 obtain ⟨⟨l⟩⟩ := s; obtain ⟨⟨l'⟩⟩ := s'
 simp only at this; subst this; rfl
mutual
theorem zLF : ∀ a b : Atom, zdw a = zdw b → a = b
 | ⟨k, r, a, f, i, o, v⟩, ⟨k', r', a', f', i', o', v'⟩ => fun h => by
  simp only [zdw, TT.l.injEq, List.cons.injEq, TT.i.injEq, and_true] at h
  obtain ⟨rfl, h1, h2, h3, rfl, h4, rfl, h5⟩ := h
  obtain ⟨t, s⟩ := r; obtain ⟨t', s'⟩ := r'
  simp only at h1 h2; subst h1 h2
  rw [zLU a a' h3, zKd i i' h4, zP8 h5]
theorem zOo : ∀ a b : Factor, zmw a = zmw b → a = b
 | ⟨x, e⟩, ⟨x', e'⟩ => fun h => by
  simp only [zmw, TT.l.injEq, List.cons.injEq, TT.i.injEq, and_true] at h
  rw [zLF x x' h.1, h.2]
theorem zzH : ∀ a b : List Factor, zbw a = zbw b → a = b
 | [], [] => fun _ => rfl
 | [], _ :: _ => fun h => by simp [zbw] at h
 | _ :: _, [] => fun h => by simp [zbw] at h
 | x :: a, y :: b => fun h => by
  simp only [zbw, List.cons.injEq] at h
  rw [zOo x y h.1, zzH a b h.2]
theorem zQS : ∀ a b : Term, zsg a = zsg b → a = b
 | ⟨c, l⟩, ⟨c', l'⟩ => fun h => by
  simp only [zsg, TT.l.injEq, List.cons.injEq, TT.i.injEq, and_true] at h
  rw [zzH l l' h.1, h.2]
theorem zyY : ∀ a b : List Term, zcL a = zcL b → a = b
 | [], [] => fun _ => rfl
 | [], _ :: _ => fun h => by simp [zcL] at h
 | _ :: _, [] => fun h => by simp [zcL] at h
 | x :: a, y :: b => fun h => by
  simp only [zcL, List.cons.injEq] at h
  rw [zQS x y h.1, zyY a b h.2]
theorem zLU : ∀ a b : List (List Term), zqt a = zqt b → a = b
 | [], [] => fun _ => rfl
 | [], _ :: _ => fun h => by simp [zqt] at h
 | _ :: _, [] => fun h => by simp [zqt] at h
 | x :: a, y :: b => fun h => by
  simp only [zqt, List.cons.injEq, TT.l.injEq] at h
  rw [zyY x y h.1, zLU a b h.2]
theorem zQ9 : ∀ a b : Weighted, zeY a = zeY b → a = b
 | ⟨c, l⟩, ⟨c', l'⟩ => fun h => by
  simp only [zeY, TT.l.injEq, List.cons.injEq, and_true] at h
  rw [zP8 h.1, zyY l l' h.2]
theorem zKd : ∀ a b : List Weighted, zf0 a = zf0 b → a = b
 | [], [] => fun _ => rfl
 | [], _ :: _ => fun h => by simp [zf0] at h
 | _ :: _, [] => fun h => by simp [zf0] at h
 | x :: a, y :: b => fun h => by
  simp only [zf0, List.cons.injEq] at h
  rw [zQ9 x y h.1, zKd a b h.2]
end
def zdc (P : List Term → Prop) (x : Atom) : Prop :=
 (x.Args.length ≤ 1000000 ∧ x.Items.length ≤ 1000000 ∧ x.Bound.Text.size ≤ 1000000000000) ∧ (∀ a ∈ x.Args, P a) ∧ ∀ w ∈ x.Items, w.Value.Text.size ≤ 1000000000000 ∧ P w.Ann
def zfc (P : List Term → Prop) (l : List Factor) : Prop := l.length ≤ 1000000 ∧ ∀ f ∈ l, zdc P f.Atom
def zF : Nat → List Term → Prop
 | 0, _ => False
 | n + 1, a => a.length ≤ 1000000 ∧ ∀ t ∈ a, zfc (zF n) t.Factors
theorem zdc.imp {P Q : List Term → Prop} (h : ∀ a, P a → Q a) {x : Atom} (hx : zdc P x) : zdc Q x := ⟨hx.1, fun a ha => h a (hx.2.1 a ha), fun w hw => ⟨(hx.2.2 w hw).1, h _ (hx.2.2 w hw).2⟩⟩
theorem zF.succ : ∀ (n : Nat) (a : List Term), zF n a → zF (n + 1) a
 | 0, _, h => h.elim
 | n + 1, a, h => ⟨h.1, fun t ht => ⟨(h.2 t ht).1, fun f hf => ((h.2 t ht).2 f hf).imp (zF.succ n)⟩⟩
theorem zF.mono {n m : Nat} {a : List Term} (h : zF n a) (hm : n ≤ m) : zF m a := by
 obtain ⟨k, rfl⟩ := Nat.exists_eq_add_of_le hm
 clear hm
 induction k with
 | zero => exact h
 | succ k ih => exact zF.succ _ _ ih
theorem zqr : ∀ {l : List Factor}, zny l → ∀ x ∈ l, zpR x
 | [], _, x, hx => by cases hx
 | y :: r, h, x, hx => by
  unfold zny at h
  rcases List.mem_cons.1 hx with rfl | hx
  ·exact h.1
  ·exact zqr h.2 x hx
theorem zuH : ∀ {l : List Term}, zh8 l → ∀ x ∈ l, ztX x
 | [], _, x, hx => by cases hx
 | y :: r, h, x, hx => by
  unfold zh8 at h
  rcases List.mem_cons.1 hx with rfl | hx
  ·exact h.1
  ·exact zuH h.2 x hx
theorem zlV : ∀ {l : List (List Term)}, zt3 l → ∀ x ∈ l, zh8 x ∧ x.length ≤ roomLen
 | [], _, x, hx => by cases hx
 | y :: r, h, x, hx => by
  unfold zt3 at h
  rcases List.mem_cons.1 hx with rfl | hx
  ·exact h.1
  ·exact zlV h.2 x hx
theorem zqy : ∀ {l : List Weighted}, zoV l → ∀ x ∈ l, wf46 x.Value ∧ zh8 x.Ann ∧ x.Ann.length ≤ roomLen
 | [], _, x, hx => by cases hx
 | y :: r, h, x, hx => by
  unfold zoV at h
  rcases List.mem_cons.1 hx with rfl | hx
  ·have := h.1; unfold zFl at this; exact ⟨this.1, this.2.1, this.2.2⟩
  ·exact zqy h.2 x hx
theorem zwa {t : Term} (h : ztX t) : wf2 t.Coeff ∧ zny t.Factors ∧ t.Factors.length ≤ roomLen := by
 unfold ztX at h; exact ⟨h.1, h.2.1, h.2.2⟩
theorem zrF {t : Factor} (h : zpR t) : ziQ t.Atom ∧ wf3 t.Exp := by
 unfold zpR at h; exact h
theorem zwx {x : Atom} (h : ziQ x) : (zt3 x.Args ∧ x.Args.length ≤ roomLen) ∧ (zoV x.Items ∧ x.Items.length ≤ roomLen) ∧ wf46 x.Bound ∧ wf3 x.Kind ∧ wf25 x.Row ∧ wf3 x.Func ∧ wf3 x.Op := by
 obtain ⟨k, r, a, f, i, o, b⟩ := x; unfold ziQ at h; exact ⟨h.2.2.1, h.2.2.2.2.1, h.2.2.2.2.2.2, h.1, h.2.1, h.2.2.2.1, h.2.2.2.2.2.1⟩
theorem zhP {z : Int} (h0 : -4611686018427387904 ≤ z) (h : z < 4611686018427387904) : IntKind.i64.wrap z = z := zJn (by omega) (by omega)
mutual
def zBo : Atom → Nat
 | ⟨_, _, a, _, i, _, b⟩ => i.length + a.length + b.Text.size + znh a + zle i
def zh1 : List Factor → Nat
 | [] => 0
 | ⟨x, _⟩ :: r => zBo x + zh1 r
def zfP : List Term → Nat
 | [] => 0
 | ⟨_, fs⟩ :: r => 1 + fs.length + zh1 fs + zfP r
def znh : List (List Term) → Nat
 | [] => 0
 | a :: r => zfP a + znh r
def zle : List Weighted → Nat
 | [] => 0
 | ⟨v, a⟩ :: r => v.Text.size + zfP a + zle r
end
theorem zQT (x : Atom) : zBo x = x.Items.length + x.Args.length + x.Bound.Text.size + znh x.Args + zle x.Items := by cases x; rw [zBo]
theorem zK7 (f : Factor) (r : List Factor) : zh1 (f :: r) = zBo f.Atom + zh1 r := by cases f; rw [zh1]
theorem zPT (t : Term) (r : List Term) : zfP (t :: r) = 1 + t.Factors.length + zh1 t.Factors + zfP r := by cases t; rw [zfP]
theorem zOB (a : List Term) (r : List (List Term)) : znh (a :: r) = zfP a + znh r := by rw [znh]
theorem zNK (w : Weighted) (r : List Weighted) : zle (w :: r) = w.Value.Text.size + zfP w.Ann + zle r := by cases w; rw [zle]
theorem zPO : znh [] = 0 := by rw [znh]
theorem zO0 : zle [] = 0 := by rw [zle]
theorem zMg : zh1 [] = 0 := by rw [zh1]
theorem zRg : zfP [] = 0 := by rw [zfP]
section
variable (g : List Term → Int → Int → Bool × Int) (a : List Term) (limit d : Nat) (hl : limit ≤ 1000) (hd : d ≤ 100) (B : Nat) (hB : B ≤ 1152921504606846976) (P : List Term → Prop)
include hl hd hB
theorem w14 (x : Atom) (i k : Int) (hlen : x.Args.length ≤ roomLen) (hg : ∀ y ∈ x.Args, ∀ l : Nat, l ≤ 1000 → ∃ w : Nat, g y l d = (true, (w : Int)) ∧ w ≤ B ∧ (w ≤ l → P y ∧ zfP y ≤ w)) :
  ∀ (fuel j n : Nat), x.Args.length < j + fuel → j ≤ x.Args.length → n ≤ 2305843009213693952 → ∃ n' : Nat, zsc g fuel a limit (d + 1 : Nat) n i k j x = (true, (a, (limit : Int), ((d + 1 : Nat) : Int), (n' : Int), i, k, x)) ∧ n ≤ n' ∧ n' ≤ max n (limit + B) ∧ (n' ≤ limit → (∀ y ∈ x.Args.drop j, P y) ∧ n + znh (x.Args.drop j) ≤ n')
 | 0, j, n, h1, h2, h3 => by omega
 | fuel + 1, j, n, h1, h2, h3 => by
  show ∃ n' : Nat, (zrE g a limit (d + 1 : Nat) n i k j x).ev (fun x y => zsc g fuel x.1 x.2.1 x.2.2.1 x.2.2.2.1 x.2.2.2.2.1 x.2.2.2.2.2.1 x.2.2.2.2.2.2.2.1 y.1) (fun r => (true, r)) (false, default) = _ ∧ _
  unfold zrE
  have hml : roomLen = 140737488351232 := rfl
  by_cases hj : j < x.Args.length
  ·by_cases hn : n ≤ limit
   ·have e1 : IntKind.i64.wrap ((limit : Int) - (n : Int)) = ((limit - n : Nat) : Int) := by rw [zhP (by omega) (by omega)]; omega
    obtain ⟨w, hw, hwB, hwP⟩ := hg _ (zM hj) (limit - n) (by omega)
    have ed : IntKind.i64.wrap (((d + 1 : Nat) : Int) - 1) = (d : Int) := by rw [zhP (by omega) (by omega)]; omega
    simp only [Wy.ev_i, Wy.ev_k, Wy.ev_h, Wy.ev_bn, Wy.ev_d, tT, hj, zuc, hn, e1, ed, hw]
    have e3 : IntKind.i64.wrap ((n : Int) + (w : Int)) = ((n + w : Nat) : Int) := by rw [zhP (by omega) (by omega)]; omega
    rw [e3, zbd (by omega)]
    obtain ⟨n', h4, h5, h6, h7⟩ := w14 x i k hlen hg fuel (j + 1) (n + w) (by omega) (by omega) (by omega)
    refine ⟨n', h4, by omega, by omega, fun hn' => ?_⟩
    obtain ⟨h8, h9⟩ := h7 hn'
    obtain ⟨p1, p2⟩ := hwP (by omega)
    rw [zbI hj, zOB]
    refine ⟨fun y hy => ?_, by omega⟩
    rcases List.mem_cons.1 hy with rfl | hy
    ·exact p1
    ·exact h8 y hy
   ·simp only [Wy.ev_i, Wy.ev_k, Wy.ev_h, Wy.ev_bn, Wy.ev_d, tT, hj, zuc, hn]
    exact ⟨n, rfl, Nat.le_refl _, by omega, fun h => absurd h hn⟩
  ·simp only [Wy.ev_i, Wy.ev_k, Wy.ev_h, Wy.ev_bn, Wy.ev_d, tT, hj]
   exact ⟨n, rfl, Nat.le_refl _, by omega, fun _ => by rw [zeM hj, zPO]; exact ⟨fun y hy => (by cases hy), Nat.le_refl _⟩⟩
theorem w18 (x : Atom) (i k : Int) (hlen : x.Items.length ≤ roomLen) (hg : ∀ y ∈ x.Items, y.Value.Text.size ≤ roomLen ∧ ∀ l : Nat, l ≤ 1000 → ∃ w : Nat, g y.Ann l d = (true, (w : Int)) ∧ w ≤ B ∧ (w ≤ l → P y.Ann ∧ zfP y.Ann ≤ w)) :
  ∀ (fuel j n : Nat), x.Items.length < j + fuel → j ≤ x.Items.length → n ≤ 2305843009213693952 → ∃ n' : Nat, zsn g fuel a limit (d + 1 : Nat) n i k j x = (true, (a, (limit : Int), ((d + 1 : Nat) : Int), (n' : Int), i, k)) ∧ n ≤ n' ∧ n' ≤ max n (limit + roomLen + B) ∧ (n' ≤ limit → (∀ y ∈ x.Items.drop j, y.Value.Text.size ≤ 1000 ∧ P y.Ann) ∧ n + zle (x.Items.drop j) ≤ n')
 | 0, j, n, h1, h2, h3 => by omega
 | fuel + 1, j, n, h1, h2, h3 => by
  show ∃ n' : Nat, (zrx g a limit (d + 1 : Nat) n i k j x).ev (fun x y => zsn g fuel x.1 x.2.1 x.2.2.1 x.2.2.2.1 x.2.2.2.2.1 x.2.2.2.2.2.1 x.2.2.2.2.2.2.2.1 y.1) (fun r => (true, r)) (false, default) = _ ∧ _
  unfold zrx
  have hml : roomLen = 140737488351232 := rfl
  by_cases hj : j < x.Items.length
  ·by_cases hn : n ≤ limit
   ·have e1 : IntKind.i64.wrap ((limit : Int) - (n : Int)) = ((limit - n : Nat) : Int) := by rw [zhP (by omega) (by omega)]; omega
    obtain ⟨ht, hgy⟩ := hg _ (zM hj)
    obtain ⟨w, hw, hwB, hwP⟩ := hgy (limit - n) (by omega)
    have ed : IntKind.i64.wrap (((d + 1 : Nat) : Int) - 1) = (d : Int) := by rw [zhP (by omega) (by omega)]; omega
    simp only [Wy.ev_i, Wy.ev_k, Wy.ev_h, Wy.ev_bn, Wy.ev_d, tT, hj, zuc, hn, e1, ed, hw]
    generalize hsz : (x.Items.getD j default).Value.Text.size = sz at *
    have e3 : IntKind.i64.wrap (IntKind.i64.wrap ((n : Int) + (sz : Int)) + (w : Int)) = ((n + sz + w : Nat) : Int) := by rw [zhP (z := (n : Int) + (sz : Int)) (by omega) (by omega), zhP (by omega) (by omega)]; omega
    rw [e3, zbd (by omega)]
    obtain ⟨n', h4, h5, h6, h7⟩ := w18 x i k hlen hg fuel (j + 1) (n + sz + w) (by omega) (by omega) (by omega)
    refine ⟨n', h4, by omega, by omega, fun hn' => ?_⟩
    obtain ⟨h8, h9⟩ := h7 hn'
    obtain ⟨p1, p2⟩ := hwP (by omega)
    rw [zbI hj, zNK]
    refine ⟨fun y hy => ?_, by omega⟩
    rcases List.mem_cons.1 hy with rfl | hy
    ·exact ⟨by omega, p1⟩
    ·exact h8 y hy
   ·simp only [Wy.ev_i, Wy.ev_k, Wy.ev_h, Wy.ev_bn, Wy.ev_d, tT, hj, zuc, hn]
    exact ⟨n, rfl, Nat.le_refl _, by omega, fun h => absurd h hn⟩
  ·simp only [Wy.ev_i, Wy.ev_k, Wy.ev_h, Wy.ev_bn, Wy.ev_d, tT, hj]
   exact ⟨n, rfl, Nat.le_refl _, by omega, fun _ => by rw [zeM hj, zO0]; exact ⟨fun y hy => (by cases hy), Nat.le_refl _⟩⟩
theorem w9 (i : Nat) (hi : i < a.length) (hla : (a.getD i default).Factors.length ≤ roomLen) (hg : ∀ f ∈ (a.getD i default).Factors, f.Atom.Args.length ≤ roomLen ∧ f.Atom.Items.length ≤ roomLen ∧ f.Atom.Bound.Text.size ≤ roomLen ∧ (∀ y ∈ f.Atom.Args, ∀ l : Nat, l ≤ 1000 → ∃ w : Nat, g y l d = (true, (w : Int)) ∧ w ≤ B ∧ (w ≤ l → P y ∧ zfP y ≤ w)) ∧
   ∀ y ∈ f.Atom.Items, y.Value.Text.size ≤ roomLen ∧ ∀ l : Nat, l ≤ 1000 → ∃ w : Nat, g y.Ann l d = (true, (w : Int)) ∧ w ≤ B ∧ (w ≤ l → P y.Ann ∧ zfP y.Ann ≤ w)) :
  ∀ (fuel k n : Nat), (a.getD i default).Factors.length < k + fuel → k ≤ (a.getD i default).Factors.length → n ≤ 2305843009213693952 → ∃ n' : Nat, ztg g fuel a limit (d + 1 : Nat) n i k = (true, (a, (limit : Int), ((d + 1 : Nat) : Int), (n' : Int), (i : Int))) ∧ n ≤ n' ∧ n' ≤ max n (limit + 4 * roomLen + B) ∧
   (n' ≤ limit → (∀ f ∈ (a.getD i default).Factors.drop k, (f.Atom.Args.length ≤ 1000 ∧ f.Atom.Items.length ≤ 1000 ∧ f.Atom.Bound.Text.size ≤ 1000) ∧ (∀ y ∈ f.Atom.Args, P y) ∧ ∀ y ∈ f.Atom.Items, y.Value.Text.size ≤ 1000 ∧ P y.Ann) ∧ n + zh1 ((a.getD i default).Factors.drop k) ≤ n')
 | 0, k, n, h1, h2, h3 => by omega
 | fuel + 1, k, n, h1, h2, h3 => by
  show ∃ n' : Nat, (ztk g a limit (d + 1 : Nat) n i k).ev (fun x y => ztg g fuel x.1 x.2.1 x.2.2.1 x.2.2.2.1 x.2.2.2.2.1 x.2.2.2.2.2.1) (fun r => (true, r)) (false, default) = _ ∧ _
  unfold ztk
  have hml : roomLen = 140737488351232 := rfl
  by_cases hk : k < (a.getD i default).Factors.length
  ·by_cases hn : n ≤ limit
   ·simp only [Wy.ev_i, Wy.ev_k, Wy.ev_h, Wy.ev_bn, Wy.ev_d, tT, hi, hk, zuc, hn, Atom.eta]
    obtain ⟨ha1, ha2, ha3, hgA, hgI⟩ := hg _ (zM hk)
    generalize hf : ((a.getD i default).Factors.getD k default) = f at *
    have e0 : IntKind.i64.wrap (IntKind.i64.wrap (IntKind.i64.wrap ((n : Int) + (f.Atom.Items.length : Int)) + (f.Atom.Args.length : Int)) + (f.Atom.Bound.Text.size : Int)) = ((n + f.Atom.Items.length + f.Atom.Args.length + f.Atom.Bound.Text.size : Nat) : Int) := by
     rw [zhP (z := (n : Int) + (f.Atom.Items.length : Int)) (by omega) (by omega), zhP (z := (n : Int) + (f.Atom.Items.length : Int) + (f.Atom.Args.length : Int)) (by omega) (by omega), zhP (by omega) (by omega)]; omega
    rw [e0]
    obtain ⟨n1, q1, q2, q3, q4⟩ := w14 g a limit d hl hd B hB P f.Atom i k ha1 hgA (a.length + limit + (d + 1) + ((n + f.Atom.Items.length + f.Atom.Args.length + f.Atom.Bound.Text.size : Nat) : Int).toNat + i + k + Int.toNat 0 + 1 + f.Atom.Args.length + f.Atom.Items.length) 0 (n + f.Atom.Items.length + f.Atom.Args.length + f.Atom.Bound.Text.size) (by omega) (by omega) (by omega)
    rw [show ((0 : Nat) : Int) = (0 : Int) from rfl] at q1
    rw [q1]
    simp only [cond_true, Atom.eta, Int.toNat_natCast]
    obtain ⟨n2, r1, r2, r3, r4⟩ := w18 g a limit d hl hd B hB P f.Atom i k ha2 hgI (a.length + limit + (d + 1) + n1 + i + k + Int.toNat 0 + 1 + f.Atom.Args.length + f.Atom.Items.length) 0 n1 (by omega) (by omega) (by omega)
    rw [show ((0 : Nat) : Int) = (0 : Int) from rfl] at r1
    rw [r1]
    simp only [cond_true]
    rw [zbd (by omega)]
    obtain ⟨n', h4, h5, h6, h7⟩ := w9 i hi hla hg fuel (k + 1) n2 (by omega) (by omega) (by omega)
    refine ⟨n', h4, by omega, by omega, fun hn' => ?_⟩
    obtain ⟨h8, h9⟩ := h7 hn'
    obtain ⟨q5, q6⟩ := q4 (by omega)
    obtain ⟨r5, r6⟩ := r4 (by omega)
    rw [List.drop_zero] at q5 q6 r5 r6
    rw [zbI hk, zK7, hf, zQT]
    refine ⟨fun y hy => ?_, by omega⟩
    rcases List.mem_cons.1 hy with rfl | hy
    ·exact ⟨⟨by omega, by omega, by omega⟩, q5, r5⟩
    ·exact h8 y hy
   ·simp only [Wy.ev_i, Wy.ev_k, Wy.ev_h, Wy.ev_bn, Wy.ev_d, tT, hi, hk, zuc, hn]
    exact ⟨n, rfl, Nat.le_refl _, by omega, fun h => absurd h hn⟩
  ·simp only [Wy.ev_i, Wy.ev_k, Wy.ev_h, Wy.ev_bn, Wy.ev_d, tT, hi, hk]
   exact ⟨n, rfl, Nat.le_refl _, by omega, fun _ => by rw [zeM hk, zMg]; exact ⟨fun y hy => (by cases hy), Nat.le_refl _⟩⟩
theorem w5 (hla : ∀ t ∈ a, t.Factors.length ≤ roomLen) (hg : ∀ t ∈ a, ∀ f ∈ t.Factors, f.Atom.Args.length ≤ roomLen ∧ f.Atom.Items.length ≤ roomLen ∧ f.Atom.Bound.Text.size ≤ roomLen ∧ (∀ y ∈ f.Atom.Args, ∀ l : Nat, l ≤ 1000 → ∃ w : Nat, g y l d = (true, (w : Int)) ∧ w ≤ B ∧ (w ≤ l → P y ∧ zfP y ≤ w)) ∧
   ∀ y ∈ f.Atom.Items, y.Value.Text.size ≤ roomLen ∧ ∀ l : Nat, l ≤ 1000 → ∃ w : Nat, g y.Ann l d = (true, (w : Int)) ∧ w ≤ B ∧ (w ≤ l → P y.Ann ∧ zfP y.Ann ≤ w)) (hlen : a.length ≤ roomLen) :
  ∀ (fuel i n : Nat), a.length < i + fuel → i ≤ a.length → n ≤ 2305843009213693952 → ∃ n' : Nat, ztc g fuel a limit (d + 1 : Nat) n i = (true, (n' : Int)) ∧ n ≤ n' ∧ n' ≤ max n (limit + 6 * roomLen + B) ∧
   (n' ≤ limit → (n + (a.length - i) ≤ n' ∧ n + zfP (a.drop i) ≤ n') ∧ ∀ t ∈ a.drop i, t.Factors.length ≤ 1000 ∧ ∀ f ∈ t.Factors, (f.Atom.Args.length ≤ 1000 ∧ f.Atom.Items.length ≤ 1000 ∧ f.Atom.Bound.Text.size ≤ 1000) ∧ (∀ y ∈ f.Atom.Args, P y) ∧ ∀ y ∈ f.Atom.Items, y.Value.Text.size ≤ 1000 ∧ P y.Ann)
 | 0, i, n, h1, h2, h3 => by omega
 | fuel + 1, i, n, h1, h2, h3 => by
  show ∃ n' : Nat, (ztl g a limit (d + 1 : Nat) n i).ev (fun x y => ztc g fuel x.1 x.2.1 x.2.2.1 x.2.2.2.1 x.2.2.2.2.1) (fun r => (true, r)) (false, default) = _ ∧ _
  unfold ztl
  have hml : roomLen = 140737488351232 := rfl
  by_cases hi : i < a.length
  ·by_cases hn : n ≤ limit
   ·simp only [Wy.ev_i, Wy.ev_k, Wy.ev_h, Wy.ev_bn, Wy.ev_d, tT, hi, zuc, hn]
    have hla' := hla _ (zM hi)
    have e0 : IntKind.i64.wrap (IntKind.i64.wrap ((n : Int) + 1) + ((a.getD i default).Factors.length : Int)) = ((n + 1 + (a.getD i default).Factors.length : Nat) : Int) := by
     rw [zbd (by omega), zhP (by omega) (by omega)]; omega
    rw [e0]
    obtain ⟨n1, q1, q2, q3, q4⟩ := w9 g a limit d hl hd B hB P i hi hla' (hg _ (zM hi)) (a.length + limit + (d + 1) + ((n + 1 + (a.getD i default).Factors.length : Nat) : Int).toNat + i + Int.toNat 0 + 1) 0 (n + 1 + (a.getD i default).Factors.length) (by omega) (by omega) (by omega)
    rw [show ((0 : Nat) : Int) = (0 : Int) from rfl] at q1
    rw [q1]
    simp only [cond_true]
    rw [zbd (by omega)]
    obtain ⟨n', h4, h5, h6, h7⟩ := w5 hla hg hlen fuel (i + 1) n1 (by omega) (by omega) (by omega)
    refine ⟨n', h4, by omega, by omega, fun hn' => ?_⟩
    obtain ⟨⟨h8, h10⟩, h9⟩ := h7 hn'
    obtain ⟨q5, q6⟩ := q4 (by omega)
    rw [List.drop_zero] at q5 q6
    rw [zbI hi, zPT]
    refine ⟨⟨by omega, by omega⟩, fun y hy => ?_⟩
    rcases List.mem_cons.1 hy with rfl | hy
    ·exact ⟨by omega, q5⟩
    ·exact h9 y hy
   ·simp only [Wy.ev_i, Wy.ev_k, Wy.ev_h, Wy.ev_bn, Wy.ev_d, tT, hi, zuc, hn]
    exact ⟨n, rfl, Nat.le_refl _, by omega, fun h => absurd h hn⟩
  ·simp only [Wy.ev_i, Wy.ev_k, Wy.ev_h, Wy.ev_bn, Wy.ev_d, tT, hi]
   exact ⟨n, rfl, Nat.le_refl _, by omega, fun _ => by rw [zeM hi, zRg]; exact ⟨⟨by omega, Nat.le_refl _⟩, fun y hy => (by cases hy)⟩⟩
end
theorem zNq : ∀ (d N : Nat), d < N → d ≤ 12 → ∀ (l : Nat), l ≤ 1000 → ∀ a, zh8 a → a.length ≤ roomLen → ∃ w : Nat, zme N a l d = (true, (w : Int)) ∧ w ≤ (d + 1) * 4503599627370496 ∧ (w ≤ l → zF d a ∧ zfP a ≤ w)
 | _, 0, h, _, _, _, _, _, _ => by omega
 | 0, N + 1, _, _, l, hl, a, hw, hlen => by
  rw [zAe]
  unfold zoR zpA
  refine ⟨l + 1, ?_, by omega, fun h => by omega⟩
  simp only [Wy.fin_i, Wy.fin_k]
  rw [zbd (by omega)]; rfl
 | d + 1, N + 1, hN, hd, l, hl, a, hw, hlen => by
  rw [zAe]
  unfold zoR zpA
  have hml : roomLen = 140737488351232 := rfl
  have ih := fun y (h1 : zh8 y) (h2 : y.length ≤ roomLen) l hl => zNq d N (by omega) (by omega) l hl y h1 h2
  have e0 : (((d + 1 : Nat) : Int) == (0 : Int)) = false := by
   rw [beq_eq_false_iff_ne]; omega
  obtain ⟨n', h1, h2, h3, h4⟩ := w5 (zme N) a l d hl (by omega) ((d + 1) * 4503599627370496) (by omega) (zF d) (fun t ht => (zwa (zuH hw t ht)).2.2) (fun t ht f hf => by
   have hx := zwx (zrF (zqr (zwa (zuH hw t ht)).2.1 f hf)).1
   refine ⟨hx.1.2, hx.2.1.2, hx.2.2.1.2.2, fun y hy l hl => ?_, fun y hy => ?_⟩
   ·have := zlV hx.1.1 y hy
    exact ih y this.1 this.2 l hl
   ·have := zqy hx.2.1.1 y hy
    exact ⟨this.1.2.2, fun l hl => ih y.Ann this.2.1 this.2.2 l hl⟩) hlen (a.length + l + (d + 1) + Int.toNat 0 + Int.toNat 0 + 1) 0 0 (by omega) (by omega) (by omega)
  rw [show ((0 : Nat) : Int) = (0 : Int) from rfl] at h1
  refine ⟨n', ?_, by omega, fun hn => ?_⟩
  ·simp only [Wy.fin_i, Wy.fin_k, Wy.fin_bn, e0, cond_false, Int.toNat_natCast, h1, cond_true]
  ·obtain ⟨⟨h5, h12⟩, h6⟩ := h4 hn
   rw [List.drop_zero] at h12
   refine ⟨⟨by omega, fun t ht => ?_⟩, by omega⟩
   obtain ⟨h7, h8⟩ := h6 t (by simpa using ht)
   refine ⟨by omega, fun f hf => ?_⟩
   obtain ⟨h9, h10, h11⟩ := h8 f hf
   exact ⟨⟨by omega, by omega, by omega⟩, h10, fun w hw => ⟨by have := (h11 w hw).1; omega, (h11 w hw).2⟩⟩
theorem zOT (limit : Nat) (hl : limit ≤ 1000) (l : List (List Term)) (hll : l.length ≤ 1000) (hw : ∀ a ∈ l, zh8 a ∧ a.length ≤ roomLen) : ∀ (n i : Nat), l.length < i + n → i ≤ l.length → ∃ r, zBB n limit l i = (true, r) ∧ ((r = .inl false) ∨ (r = .inr () ∧ ∀ a ∈ l.drop i, zF 12 a ∧ zfP a ≤ limit))
 | 0, i, h1, h2 => by omega
 | n + 1, i, h1, h2 => by
  show ∃ r, (zB7 limit l i).ev (fun x y => zBB n x.1 x.2.1 x.2.2.1) (fun r => (true, r)) (false, .inl default) = (true, r) ∧ _
  unfold zB7
  by_cases hi : i < l.length
  ·obtain ⟨w, q1, q2, q3⟩ := zNq 12 1000 (by omega) (by omega) limit hl _ (hw _ (zM hi)).1 (hw _ (zM hi)).2
   have q1' : zCx (l.getD i default) (limit : Int) 12 = (true, (w : Int)) := q1
   simp only [Wy.ev_i, Wy.ev_k, Wy.ev_h, Wy.ev_bn, Wy.ev_d, tT, hi, q1', zoS]
   by_cases hg : limit < w
   ·simp only [hg, decide_true, cond_true]
    exact ⟨_, rfl, .inl rfl⟩
   ·simp only [hg, decide_false, cond_false]
    rw [zbd (by omega)]
    obtain ⟨r, h3, h4⟩ := zOT limit hl l hll hw n (i + 1) (by omega) (by omega)
    refine ⟨r, h3, ?_⟩
    rcases h4 with h4 | ⟨h4, h5⟩
    ·exact .inl h4
    ·refine .inr ⟨h4, fun a ha => ?_⟩
     rw [zbI hi] at ha
     rcases List.mem_cons.1 ha with rfl | ha
     ·exact ⟨(q3 (by omega)).1, by have := (q3 (by omega)).2; omega⟩
     ·exact h5 a ha
  ·simp only [Wy.ev_i, Wy.ev_k, Wy.ev_h, Wy.ev_bn, Wy.ev_d, tT, hi]
   exact ⟨_, rfl, .inr ⟨rfl, fun a ha => by rw [zeM hi] at ha; cases ha⟩⟩
theorem zUS (limit : Nat) (hl : limit ≤ 1000) (l : List (List Term)) (hll : l.length ≤ 1000) (hw : ∀ a ∈ l, zh8 a ∧ a.length ≤ roomLen) : ∃ b, zuV limit l = (true, b) ∧ (b = true → ∀ a ∈ l, zF 12 a ∧ zfP a ≤ limit) := by
 unfold zuV zEx
 obtain ⟨r, h1, h2⟩ := zOT limit hl l hll hw (limit + l.length + Int.toNat 0 + 1) 0 (by omega) (by omega)
 rw [show ((0 : Nat) : Int) = (0 : Int) from rfl] at h1
 rw [Wy.fin_bn]
 simp only [Int.toNat_natCast, h1, cond_true]
 rcases h2 with rfl | ⟨rfl, h2⟩
 ·exact ⟨false, rfl, fun h => by cases h⟩
 ·exact ⟨true, rfl, fun _ a ha => h2 a (by simpa using ha)⟩
mutual
def zet : Atom → Nat
 | ⟨_, _, a, _, i, _, _⟩ => zeo a + zdd i
def zbG : List Factor → Nat
 | [] => 0
 | ⟨x, _⟩ :: r => zet x + zbG r
def zR : List Term → Nat
 | [] => 0
 | ⟨_, fs⟩ :: r => 1 + fs.length + zbG fs + zR r
def zeo : List (List Term) → Nat
 | [] => 0
 | a :: r => zR a + zeo r
def zdd : List Weighted → Nat
 | [] => 0
 | ⟨_, a⟩ :: r => 1 + zR a + zdd r
end
theorem zg6 (x : Atom) : zet x = zeo x.Args + zdd x.Items := by cases x; rw [zet]
theorem zew (f : Factor) (r : List Factor) : zbG (f :: r) = zet f.Atom + zbG r := by cases f; rw [zbG]
theorem ziJ (t : Term) (r : List Term) : zR (t :: r) = 1 + t.Factors.length + zbG t.Factors + zR r := by cases t; rw [zR]
theorem zd1 (a : List Term) (r : List (List Term)) : zeo (a :: r) = zR a + zeo r := by rw [zeo]
theorem zh3 (w : Weighted) (r : List Weighted) : zdd (w :: r) = 1 + zR w.Ann + zdd r := by cases w; rw [zdd]
theorem zgM : zeo [] = 0 := by rw [zeo]
theorem ze2 : zdd [] = 0 := by rw [zdd]
theorem zoH : zbG [] = 0 := by rw [zbG]
theorem zvF : zR [] = 0 := by rw [zR]
theorem zLN (l : List (List Term)) : ∀ n : Nat, l.foldl (fun s t => s + zR t) n = n + zeo l := by
 induction l with
 | nil => intro n; rw [zgM]; rfl
 | cons a r ih => intro n; rw [List.foldl_cons, ih, zd1]; omega
theorem zJ1 (l : List Weighted) : ∀ n : Nat, l.foldl (fun s t => s + 1 + zR t.Ann) n = n + zdd l := by
 induction l with
 | nil => intro n; rw [ze2]; rfl
 | cons a r ih => intro n; rw [List.foldl_cons, ih, zh3]; omega
theorem zNE (l : List Factor) : ∀ n : Nat, l.foldl (fun s t => s + zet t.Atom) n = n + zbG l := by
 induction l with
 | nil => intro n; rw [zoH]; rfl
 | cons a r ih => intro n; rw [List.foldl_cons, ih, zew]; omega
theorem zNh (l : List Term) : ∀ n : Nat, l.foldl (fun s t => s + 1 + t.Factors.length + zbG t.Factors) n = n + zR l := by
 induction l with
 | nil => intro n; rw [zvF]; rfl
 | cons a r ih => intro n; rw [List.foldl_cons, ih, ziJ]; omega
theorem zld {n m : Nat} (h : n + m ≤ 4611686018427387904) : IntKind.i64.wrap ((n : Int) + (m : Int)) = ((n + m : Nat) : Int) := by
 rw [zJn (by omega) (by omega)]; omega
theorem zfe {i : Nat} (h : i < 4611686018427387904) : IntKind.i64.wrap ((i : Int) + 1) = ((i + 1 : Nat) : Int) := zbd h
section
variable (g : List Term → Bool × Int)
theorem zTY (l : List (List Term)) (hl : l.length ≤ 1000000) (hg : ∀ y ∈ l, g y = (true, (zR y : Int))) (t12 : List Term) (t13 t14 : Int) (t25 : List Factor) (t26 t27 : Int) (f : Factor) (fuel n : Nat) (hf : l.length < fuel) (hn : n + zeo l ≤ 4611686018427387904) :
  zuU g fuel n t12 t13 t14 t25 t26 t27 l l.length 0 f = (true, (((n + zeo l : Nat) : Int), t12, t13, t14, t25, t26, t27, f)) := by
 have h := zcv (W := zkV g) (z := default) (l := l) (fun i (n : Nat) => ((n : Int), (), t12, t13, t14, t25, t26, t27, l, (l.length : Int), (i : Int), ())) (fun _ _ => (f, ())) (fun y n => .inl (n + zR y)) (fun n => ((n : Int), t12, t13, t14, t25, t26, t27, f)) (fun i n => n + zeo (l.drop i) ≤ 4611686018427387904)
  (fun i n hi hI => .inl ⟨_, rfl, by rw [zbI hi, zd1] at hI; omega, fun H K D => by
   rw [zbI hi, zd1] at hI
   show (zik g n t12 t13 t14 t25 t26 t27 l l.length i f).ev H K D = _
   unfold zik
   simp only [Wy.ev_i, Wy.ev_k, Wy.ev_h, Wy.ev_bn, Wy.ev_d, tT, hi, hg _ (zM hi)]
   rw [zld (by omega), zfe (by omega)]⟩)
  (fun n hI H K D => by
   show (zik g n t12 t13 t14 t25 t26 t27 l l.length l.length f).ev H K D = _
   unfold zik
   simp only [Wy.ev_i, Wy.ev_k, tT, Nat.lt_irrefl]) fuel 0 n (by omega) (Nat.zero_le _) (by simpa using hn)
 rw [List.drop_zero, zcu, zLN] at h
 exact h
theorem zT9 (l : List Weighted) (hl : l.length ≤ 1000000) (hg : ∀ y ∈ l, g y.Ann = (true, (zR y.Ann : Int))) (t12 : List Term) (t13 t14 : Int) (t25 : List Factor) (t26 t27 : Int) (fuel n : Nat) (hf : l.length < fuel) (hn : n + zdd l ≤ 4611686018427387904) :
  zuF g fuel n t12 t13 t14 t25 t26 t27 l l.length 0 = (true, (((n + zdd l : Nat) : Int), t12, t13, t14, t25, t26, t27)) := by
 have h := zcv (W := zkR g) (z := default) (l := l) (fun i (n : Nat) => ((n : Int), t12, t13, t14, t25, t26, t27, l, (l.length : Int), (i : Int), ())) (fun _ _ => ()) (fun y n => .inl (n + 1 + zR y.Ann)) (fun n => ((n : Int), t12, t13, t14, t25, t26, t27)) (fun i n => n + zdd (l.drop i) ≤ 4611686018427387904)
  (fun i n hi hI => .inl ⟨_, rfl, by rw [zbI hi, zh3] at hI; omega, fun H K D => by
   rw [zbI hi, zh3] at hI
   show (zin g n t12 t13 t14 t25 t26 t27 l l.length i).ev H K D = _
   unfold zin
   simp only [Wy.ev_i, Wy.ev_k, Wy.ev_h, Wy.ev_bn, Wy.ev_d, tT, hi, hg _ (zM hi)]
   rw [zfe (by omega), show (1 : Int) = ((1 : Nat) : Int) from rfl, zld (by omega), zld (by omega), ← Nat.add_assoc]⟩)
  (fun n hI H K D => by
   show (zin g n t12 t13 t14 t25 t26 t27 l l.length l.length).ev H K D = _
   unfold zin
   simp only [Wy.ev_i, Wy.ev_k, tT, Nat.lt_irrefl]) fuel 0 n (by omega) (Nat.zero_le _) (by simpa using hn)
 rw [List.drop_zero, zcu, zJ1] at h
 exact h
theorem zUC (l : List Factor) (hl : l.length ≤ 1000000) (hg : ∀ f ∈ l, (f.Atom.Args.length ≤ 1000000 ∧ f.Atom.Items.length ≤ 1000000) ∧ (∀ y ∈ f.Atom.Args, g y = (true, (zR y : Int))) ∧ ∀ y ∈ f.Atom.Items, g y.Ann = (true, (zR y.Ann : Int))) (t12 : List Term) (t13 t14 : Int) (fuel n : Nat) (hf : l.length < fuel) (hn : n + zbG l ≤ 4611686018427387904) :
  zwJ g fuel n t12 t13 t14 l l.length 0 = (true, (((n + zbG l : Nat) : Int), t12, t13, t14)) := by
 have h := zcv (W := zlT g) (z := default) (l := l) (fun i (n : Nat) => ((n : Int), t12, t13, t14, l, (l.length : Int), (i : Int), ())) (fun _ _ => ()) (fun y n => .inl (n + zet y.Atom)) (fun n => ((n : Int), t12, t13, t14)) (fun i n => n + zbG (l.drop i) ≤ 4611686018427387904)
  (fun i n hi hI => .inl ⟨_, rfl, by rw [zbI hi, zew] at hI; omega, fun H K D => by
   rw [zbI hi, zew, zg6] at hI
   obtain ⟨⟨h1, h2⟩, h3, h4⟩ := hg _ (zM hi)
   show (zi0 g n t12 t13 t14 l l.length i).ev H K D = _
   unfold zi0
   simp only [Wy.ev_i, Wy.ev_k, Wy.ev_h, Wy.ev_bn, Wy.ev_d, tT, hi, Atom.eta]
   rw [zTY g _ h1 h3 _ _ _ _ _ _ _ _ _ (by omega) (by omega)]
   simp only [cond_true, Int.toNat_natCast]
   rw [zT9 g _ h2 h4 _ _ _ _ _ _ _ _ (by omega) (by omega)]
   simp only [cond_true]
   rw [zfe (by omega), zg6, Nat.add_assoc]⟩)
  (fun n hI H K D => by
   show (zi0 g n t12 t13 t14 l l.length l.length).ev H K D = _
   unfold zi0
   simp only [Wy.ev_i, Wy.ev_k, tT, Nat.lt_irrefl]) fuel 0 n (by omega) (Nat.zero_le _) (by simpa using hn)
 rw [List.drop_zero, zcu, zNE] at h
 exact h
theorem zUL (l : List Term) (hl : l.length ≤ 1000000) (hg : ∀ t ∈ l, t.Factors.length ≤ 1000000 ∧ ∀ f ∈ t.Factors, (f.Atom.Args.length ≤ 1000000 ∧ f.Atom.Items.length ≤ 1000000) ∧ (∀ y ∈ f.Atom.Args, g y = (true, (zR y : Int))) ∧ ∀ y ∈ f.Atom.Items, g y.Ann = (true, (zR y.Ann : Int))) (fuel n : Nat) (hf : l.length < fuel) (hn : n + zR l ≤ 4611686018427387904) :
  zv4 g fuel n l l.length 0 = (true, ((n + zR l : Nat) : Int)) := by
 have h := zcv (W := zlH g) (z := default) (l := l) (fun i (n : Nat) => ((n : Int), l, (l.length : Int), (i : Int), ())) (fun _ _ => ()) (fun y n => .inl (n + 1 + y.Factors.length + zbG y.Factors)) (fun n => (n : Int)) (fun i n => n + zR (l.drop i) ≤ 4611686018427387904)
  (fun i n hi hI => .inl ⟨_, rfl, by rw [zbI hi, ziJ] at hI; omega, fun H K D => by
   rw [zbI hi, ziJ] at hI
   obtain ⟨h1, h3⟩ := hg _ (zM hi)
   show (ziU g n l l.length i).ev H K D = _
   unfold ziU
   simp only [Wy.ev_i, Wy.ev_k, Wy.ev_h, Wy.ev_bn, Wy.ev_d, tT, hi, Atom.eta]
   rw [show (1 : Int) = ((1 : Nat) : Int) from rfl, zld (n := 1) (by omega), zld (by omega)]
   rw [zUC g _ h1 h3 _ _ _ _ _ (by omega) (by omega)]
   simp only [cond_true]
   rw [show ((1 : Nat) : Int) = (1 : Int) from rfl, zfe (by omega), Nat.add_assoc n 1]⟩)
  (fun n hI H K D => by
   show (ziU g n l l.length l.length).ev H K D = _
   unfold ziU
   simp only [Wy.ev_i, Wy.ev_k, tT, Nat.lt_irrefl]) fuel 0 n (by omega) (Nat.zero_le _) (by simpa using hn)
 rw [List.drop_zero, zcu, zNh] at h
 exact h
theorem zSr (x : Atom) (hl : x.Args.length ≤ 1000000) (hg : ∀ y ∈ x.Args, g y = (true, (zR y : Int))) (a : List Term) (i k : Int) (fuel n : Nat) (hf : x.Args.length < fuel) (hn : n + zeo x.Args ≤ 4611686018427387904) :
  zCn g fuel a n i k 0 x = (true, (a, ((n + zeo x.Args : Nat) : Int), i, k, x)) := by
 have h := zcv (W := zpv g) (z := default) (l := x.Args) (fun j (n : Nat) => (a, (n : Int), i, k, (), (j : Int), ())) (fun _ _ => (x, ())) (fun y n => .inl (n + zR y)) (fun n => (a, (n : Int), i, k, x)) (fun i n => n + zeo (x.Args.drop i) ≤ 4611686018427387904)
  (fun j n hi hI => .inl ⟨_, rfl, by rw [zbI hi, zd1] at hI; omega, fun H K D => by
   rw [zbI hi, zd1] at hI
   show (zmF g a n i k j x).ev H K D = _
   unfold zmF
   simp only [Wy.ev_i, Wy.ev_k, Wy.ev_h, Wy.ev_bn, Wy.ev_d, tT, hi, hg _ (zM hi)]
   rw [zld (by omega), zfe (by omega)]⟩)
  (fun n hI H K D => by
   show (zmF g a n i k x.Args.length x).ev H K D = _
   unfold zmF
   simp only [Wy.ev_i, Wy.ev_k, tT, Nat.lt_irrefl]) fuel 0 n (by omega) (Nat.zero_le _) (by simpa using hn)
 rw [List.drop_zero, zcu, zLN] at h
 exact h
theorem zSP (x : Atom) (hl : x.Items.length ≤ 1000000) (hg : ∀ y ∈ x.Items, g y.Ann = (true, (zR y.Ann : Int))) (a : List Term) (i k : Int) (fuel n : Nat) (hf : x.Items.length < fuel) (hn : n + zdd x.Items ≤ 4611686018427387904) :
  zCu g fuel a n i k 0 x = (true, (a, ((n + zdd x.Items : Nat) : Int), i, k)) := by
 have h := zcv (W := zpN g) (z := default) (l := x.Items) (fun j (n : Nat) => (a, (n : Int), i, k, (), (j : Int), ())) (fun _ _ => (x, ())) (fun y n => .inl (n + 1 + zR y.Ann)) (fun n => (a, (n : Int), i, k)) (fun i n => n + zdd (x.Items.drop i) ≤ 4611686018427387904)
  (fun j n hi hI => .inl ⟨_, rfl, by rw [zbI hi, zh3] at hI; omega, fun H K D => by
   rw [zbI hi, zh3] at hI
   show (zmz g a n i k j x).ev H K D = _
   unfold zmz
   simp only [Wy.ev_i, Wy.ev_k, Wy.ev_h, Wy.ev_bn, Wy.ev_d, tT, hi, hg _ (zM hi)]
   rw [zfe (i := j) (by omega), zfe (i := n) (by omega), zld (by omega)]⟩)
  (fun n hI H K D => by
   show (zmz g a n i k x.Items.length x).ev H K D = _
   unfold zmz
   simp only [Wy.ev_i, Wy.ev_k, tT, Nat.lt_irrefl]) fuel 0 n (by omega) (Nat.zero_le _) (by simpa using hn)
 rw [List.drop_zero, zcu, zJ1] at h
 exact h
theorem zB8 : ∀ (a : List Term) (i : Nat), i < a.length → (a.getD i default).Factors.length ≤ szTs a
 | [], i, h => by simp at h
 | t :: r, 0, h => by
  have : ∀ l : List Factor, l.length ≤ szFs l := fun l => by
   induction l with
   | nil => exact Nat.le_refl _
   | cons f r ih => simp only [szFs, List.length_cons]; omega
  have := this t.Factors
  simp only [szTs, List.getD_cons_zero]; omega
 | t :: r, i + 1, h => by
  have := zB8 r i (by simpa using h)
  simp only [szTs, List.getD_cons_succ]; omega
theorem foldl_factors' (l : List Factor) : ∀ n : Nat, l.foldl (fun s t => s + 1 + zet t.Atom) n = n + l.length + zbG l := by
 induction l with
 | nil => intro n; rw [zoH]; rfl
 | cons a r ih => intro n; rw [List.foldl_cons, ih, zew, List.length_cons]; omega
theorem zTP (a : List Term) (i : Nat) (hi : i < a.length) (hla : a.length ≤ 1000000) (l : List Factor) (el : (a.getD i default).Factors = l) (hl : l.length ≤ 1000000) (hg : ∀ f ∈ l, (f.Atom.Args.length ≤ 1000000 ∧ f.Atom.Items.length ≤ 1000000) ∧ (∀ y ∈ f.Atom.Args, g y = (true, (zR y : Int))) ∧ ∀ y ∈ f.Atom.Items, g y.Ann = (true, (zR y.Ann : Int))) (fuel n : Nat) (hf : l.length < fuel) (hn : n + l.length + zbG l ≤ 4611686018427387904) :
  zDr g fuel a n i 0 = (true, (a, ((n + l.length + zbG l : Nat) : Int), (i : Int))) := by
 have h := zcv (W := zqQ g) (z := default) (l := l) (fun k (n : Nat) => (a, (n : Int), (i : Int), (k : Int), ())) (fun _ _ => ()) (fun y n => .inl (n + 1 + zet y.Atom)) (fun n => (a, (n : Int), (i : Int))) (fun k n => n + (l.drop k).length + zbG (l.drop k) ≤ 4611686018427387904)
  (fun k n hk hI => .inl ⟨_, rfl, by rw [zbI hk, zew, List.length_cons] at hI; omega, fun H K D => by
   rw [zbI hk, zew, zg6, List.length_cons] at hI
   obtain ⟨⟨h1, h2⟩, h3, h4⟩ := hg _ (zM hk)
   show (znz g a n i k).ev H K D = _
   unfold znz
   simp only [Wy.ev_i, Wy.ev_k, Wy.ev_h, Wy.ev_bn, Wy.ev_d, tT, hi, el, hk, Atom.eta]
   rw [zfe (i := n) (by omega)]
   rw [zSr g _ h1 h3 _ _ _ _ _ (by omega) (by omega)]
   simp only [cond_true, Int.toNat_natCast, Atom.eta]
   rw [zSP g _ h2 h4 _ _ _ _ _ (by omega) (by omega)]
   simp only [cond_true]
   rw [zfe (by omega), zg6, Nat.add_assoc (n + 1)]⟩)
  (fun n hI H K D => by
   show (znz g a n i l.length).ev H K D = _
   unfold znz
   simp only [Wy.ev_i, Wy.ev_k, tT, hi, el, Nat.lt_irrefl]) fuel 0 n (by omega) (Nat.zero_le _) (by simpa using hn)
 rw [List.drop_zero, zcu, foldl_factors'] at h
 exact h
theorem zTr (l : List Term) (hl : l.length ≤ 1000000) (hg : ∀ t ∈ l, t.Factors.length ≤ 1000000 ∧ ∀ f ∈ t.Factors, (f.Atom.Args.length ≤ 1000000 ∧ f.Atom.Items.length ≤ 1000000) ∧ (∀ y ∈ f.Atom.Args, g y = (true, (zR y : Int))) ∧ ∀ y ∈ f.Atom.Items, g y.Ann = (true, (zR y.Ann : Int))) (fuel n : Nat) (hf : l.length < fuel) (hn : n + zR l ≤ 4611686018427387904) :
  zDW g fuel l n 0 = (true, ((n + zR l : Nat) : Int)) := by
 have h := zcv (W := zqR g) (z := default) (l := l) (fun i (n : Nat) => (l, (n : Int), (i : Int), ())) (fun _ _ => ()) (fun y n => .inl (n + 1 + y.Factors.length + zbG y.Factors)) (fun n => (n : Int)) (fun i n => n + zR (l.drop i) ≤ 4611686018427387904)
  (fun i n hi hI => .inl ⟨_, rfl, by rw [zbI hi, ziJ] at hI; omega, fun H K D => by
   rw [zbI hi, ziJ] at hI
   obtain ⟨h1, h3⟩ := hg _ (zM hi)
   have hz := zB8 l i hi
   show (znr g l n i).ev H K D = _
   unfold znr
   simp only [Wy.ev_i, Wy.ev_k, Wy.ev_h, Wy.ev_bn, Wy.ev_d, tT, hi, Atom.eta]
   rw [zfe (i := n) (by omega)]
   rw [zTP g l i hi hl _ rfl h1 h3 _ _ (by omega) (by omega)]
   simp only [cond_true]
   rw [zfe (by omega)]⟩)
  (fun n hI H K D => by
   show (znr g l n l.length).ev H K D = _
   unfold znr
   simp only [Wy.ev_i, Wy.ev_k, tT, Nat.lt_irrefl]) fuel 0 n (by omega) (Nat.zero_le _) (by simpa using hn)
 rw [List.drop_zero, zcu, zNh] at h
 exact h
end
theorem zPA {l : List (List Term)} {y : List Term} (h : y ∈ l) : zR y ≤ zeo l := by
 induction l with
 | nil => cases h
 | cons a r ih =>
  rw [zd1]
  rcases List.mem_cons.1 h with rfl | h
  ·omega
  ·have := ih h; omega
theorem zOY {l : List Weighted} {y : Weighted} (h : y ∈ l) : zR y.Ann ≤ zdd l := by
 induction l with
 | nil => cases h
 | cons a r ih =>
  rw [zh3]
  rcases List.mem_cons.1 h with rfl | h
  ·omega
  ·have := ih h; omega
theorem zMP {l : List Factor} {y : Factor} (h : y ∈ l) : zet y.Atom ≤ zbG l := by
 induction l with
 | nil => cases h
 | cons a r ih =>
  rw [zew]
  rcases List.mem_cons.1 h with rfl | h
  ·omega
  ·have := ih h; omega
theorem zQU {l : List Term} {y : Term} (h : y ∈ l) : zbG y.Factors ≤ zR l := by
 induction l with
 | nil => cases h
 | cons a r ih =>
  rw [ziJ]
  rcases List.mem_cons.1 h with rfl | h
  ·omega
  ·have := ih h; omega
theorem zMm {a : List Term} {t : Term} {f : Factor} (ht : t ∈ a) (hf : f ∈ t.Factors) : zeo f.Atom.Args + zdd f.Atom.Items ≤ zR a := by
 have h1 := zQU ht; have h2 := zMP hf; rw [zg6] at h2; omega
theorem zEB {d : Nat} {a : List Term} (h : zF (d + 1) a) {t : Term} (ht : t ∈ a) : t.Factors.length ≤ 1000000 ∧ ∀ f ∈ t.Factors, (f.Atom.Args.length ≤ 1000000 ∧ f.Atom.Items.length ≤ 1000000) ∧ (∀ y ∈ f.Atom.Args, zF d y) ∧ ∀ y ∈ f.Atom.Items, zF d y.Ann :=
 ⟨(h.2 t ht).1, fun f hf => have q := (h.2 t ht).2 f hf; ⟨⟨q.1.1, q.1.2.1⟩, q.2.1, fun y hy => (q.2.2 y hy).2⟩⟩
theorem zKB : ∀ (n d : Nat) (a : List Term), zF d a → d ≤ n → zR a ≤ 4611686018427387904 → zjm n a = (true, (zR a : Int)) ∧ zoE n a = (true, (zR a : Int))
 | n, 0, a, h, hd, hs => h.elim
 | 0, d + 1, a, h, hd, hs => by omega
 | n + 1, d + 1, a, h, hd, hs => by
  have hg := fun y (hy : zF d y) (hs : zR y ≤ 4611686018427387904) => zKB n d y hy (by omega) hs
  have hsub : ∀ t ∈ a, t.Factors.length ≤ 1000000 ∧ ∀ f ∈ t.Factors, (f.Atom.Args.length ≤ 1000000 ∧ f.Atom.Items.length ≤ 1000000) ∧ (∀ y ∈ f.Atom.Args, zF d y ∧ zR y ≤ 4611686018427387904) ∧ ∀ y ∈ f.Atom.Items, zF d y.Ann ∧ zR y.Ann ≤ 4611686018427387904 := fun t ht => by
   obtain ⟨h1, h2⟩ := zEB h ht
   refine ⟨h1, fun f hf => ?_⟩
   obtain ⟨h3, h4, h5⟩ := h2 f hf
   have h6 := zMm ht hf
   exact ⟨h3, fun y hy => ⟨h4 y hy, by have := zPA hy; omega⟩, fun y hy => ⟨h5 y hy, by have := zOY hy; omega⟩⟩
  constructor
  ·rw [zGf]
   unfold zoj zqH
   have h1 := zUL (zjm n) a h.1 (fun t ht => ⟨(hsub t ht).1, fun f hf => ⟨((hsub t ht).2 f hf).1, fun y hy => (hg y (((hsub t ht).2 f hf).2.1 y hy).1 (((hsub t ht).2 f hf).2.1 y hy).2).1, fun y hy => (hg _ (((hsub t ht).2 f hf).2.2 y hy).1 (((hsub t ht).2 f hf).2.2 y hy).2).1⟩⟩)
    (Int.toNat 0 + a.length + (Int.ofNat a.length).toNat + Int.toNat 0 + 1) 0 (by omega) (by omega)
   rw [show ((0 : Nat) : Int) = (0 : Int) from rfl, Nat.zero_add] at h1
   rw [Wy.fin_bn, show Int.ofNat a.length = (a.length : Int) from rfl] at *
   rw [h1]; rfl
  ·rw [zLf]
   unfold zwj zxH
   have h1 := zTr (zoE n) a h.1 (fun t ht => ⟨(hsub t ht).1, fun f hf => ⟨((hsub t ht).2 f hf).1, fun y hy => (hg y (((hsub t ht).2 f hf).2.1 y hy).1 (((hsub t ht).2 f hf).2.1 y hy).2).2, fun y hy => (hg _ (((hsub t ht).2 f hf).2.2 y hy).1 (((hsub t ht).2 f hf).2.2 y hy).2).2⟩⟩)
    (a.length + Int.toNat 0 + Int.toNat 0 + 1 + szTs a) 0 (by omega) (by omega)
   rw [show ((0 : Nat) : Int) = (0 : Int) from rfl, Nat.zero_add] at h1
   rw [Wy.fin_bn, h1]; rfl
mutual
def zmg : Atom → Nat
 | ⟨k, _, a, _, i, _, _⟩ => if k = 0 then 0 else 1 + max (zkb a) (zi6 i)
def zdK : List Factor → Nat
 | [] => 0
 | ⟨x, _⟩ :: r => max (zmg x) (zdK r)
def zbo : List Term → Nat
 | [] => 0
 | ⟨_, fs⟩ :: r => max (zdK fs) (zbo r)
def zkb : List (List Term) → Nat
 | [] => 0
 | a :: r => max (zbo a) (zkb r)
def zi6 : List Weighted → Nat
 | [] => 0
 | ⟨_, a⟩ :: r => max (zbo a) (zi6 r)
end
theorem zvv (x : Atom) : zmg x = if x.Kind = 0 then 0 else 1 + max (zkb x.Args) (zi6 x.Items) := by cases x; rw [zmg]
theorem zv0 (f : Factor) (r : List Factor) : zdK (f :: r) = max (zmg f.Atom) (zdK r) := by cases f; rw [zdK]
theorem zEw (t : Term) (r : List Term) : zbo (t :: r) = max (zdK t.Factors) (zbo r) := by cases t; rw [zbo]
theorem zwu (a : List Term) (r : List (List Term)) : zkb (a :: r) = max (zbo a) (zkb r) := by rw [zkb]
theorem zum (w : Weighted) (r : List Weighted) : zi6 (w :: r) = max (zbo w.Ann) (zi6 r) := by cases w; rw [zi6]
theorem zEQ : zkb [] = 0 := by rw [zkb]
theorem zCi : zi6 [] = 0 := by rw [zi6]
theorem zFd : zdK [] = 0 := by rw [zdK]
theorem zLc : zbo [] = 0 := by rw [zbo]
theorem zRi (l : List (List Term)) : ∀ n : Nat, l.foldl (fun s t => max s (zbo t)) n = max n (zkb l) := by
 induction l with
 | nil => intro n; rw [zEQ]; exact (Nat.max_zero n).symm
 | cons a r ih => intro n; rw [List.foldl_cons, ih, zwu]; omega
theorem zPM (l : List Weighted) : ∀ n : Nat, l.foldl (fun s t => max s (zbo t.Ann)) n = max n (zi6 l) := by
 induction l with
 | nil => intro n; rw [zCi]; exact (Nat.max_zero n).symm
 | cons a r ih => intro n; rw [List.foldl_cons, ih, zum]; omega
theorem zPR (l : List (List Term)) : ∀ n : Nat, l.foldl (fun s t => max s (1 + zbo t)) (1 + n) = 1 + max n (zkb l) := by
 induction l with
 | nil => intro n; rw [zEQ]; simp
 | cons a r ih => intro n; rw [List.foldl_cons, show max (1 + n) (1 + zbo a) = 1 + max n (zbo a) by omega, ih, zwu]; omega
theorem zOx (l : List Weighted) : ∀ n : Nat, l.foldl (fun s t => max s (1 + zbo t.Ann)) (1 + n) = 1 + max n (zi6 l) := by
 induction l with
 | nil => intro n; rw [zCi]; simp
 | cons a r ih => intro n; rw [List.foldl_cons, show max (1 + n) (1 + zbo a.Ann) = 1 + max n (zbo a.Ann) by omega, ih, zum]; omega
theorem zHo (l : List Factor) : ∀ n : Nat, l.foldl (fun s t => max s (zmg t.Atom)) n = max n (zdK l) := by
 induction l with
 | nil => intro n; rw [zFd]; exact (Nat.max_zero n).symm
 | cons a r ih => intro n; rw [List.foldl_cons, ih, zv0]; omega
theorem zNB (l : List Term) : ∀ n : Nat, l.foldl (fun s t => max s (zdK t.Factors)) n = max n (zbo l) := by
 induction l with
 | nil => intro n; rw [zLc]; exact (Nat.max_zero n).symm
 | cons a r ih => intro n; rw [List.foldl_cons, ih, zEw]; omega
theorem zJs (a b : Nat) : (if (a : Int) > (b : Int) then (a : Int) else (b : Int)) = ((max b a : Nat) : Int) := by split <;> omega
theorem zLe {d : Nat} : ∀ l : List (List Term), (∀ y ∈ l, zbo y ≤ d) → zkb l ≤ d := fun l => by
 induction l with
 | nil => intro _; rw [zEQ]; omega
 | cons y r ih => intro hy; rw [zwu]; have h1 := hy y (by simp); have h2 := ih fun z hz => hy z (by simp [hz]); omega
theorem zKa {d : Nat} : ∀ l : List Weighted, (∀ y ∈ l, zbo y.Ann ≤ d) → zi6 l ≤ d := fun l => by
 induction l with
 | nil => intro _; rw [zCi]; omega
 | cons y r ih => intro hy; rw [zum]; have h1 := hy y (by simp); have h2 := ih fun z hz => hy z (by simp [hz]); omega
theorem zNJ {d : Nat} : ∀ l : List Factor, (∀ y ∈ l, zmg y.Atom ≤ d) → zdK l ≤ d := fun l => by
 induction l with
 | nil => intro _; rw [zFd]; omega
 | cons y r ih => intro hy; rw [zv0]; have h1 := hy y (by simp); have h2 := ih fun z hz => hy z (by simp [hz]); omega
theorem zSa {d : Nat} : ∀ l : List Term, (∀ y ∈ l, zdK y.Factors ≤ d) → zbo l ≤ d := fun l => by
 induction l with
 | nil => intro _; rw [zLc]; omega
 | cons y r ih => intro hy; rw [zEw]; have h1 := hy y (by simp); have h2 := ih fun z hz => hy z (by simp [hz]); omega
theorem zGj : ∀ (d : Nat) (a : List Term), zF d a → zbo a ≤ d
 | 0, a, h => h.elim
 | d + 1, a, h => zSa a fun t ht => zNJ _ fun f hf => by
  obtain ⟨_, h2⟩ := zEB h ht
  obtain ⟨_, h4, h5⟩ := h2 f hf
  have q1 := zLe f.Atom.Args fun y hy => zGj d y (h4 y hy)
  have q2 := zKa f.Atom.Items fun y hy => zGj d y.Ann (h5 y hy)
  rw [zvv]; split <;> omega
section
variable (g : List Term → Bool × Int)
theorem zUN (l : List (List Term)) (hl : l.length ≤ 1000000) (hg : ∀ y ∈ l, g y = (true, (zbo y : Int))) (nn : Int) (t13 : List Term) (t14 t15 : Int) (t20 : List Factor) (t21 t22 : Int) (f : Factor) (fuel n : Nat) (hf : l.length < fuel) :
  zsh g fuel nn n t13 t14 t15 t20 t21 t22 l l.length 0 f = (true, (nn, ((max n (zkb l) : Nat) : Int), t13, t14, t15, t20, t21, t22, f)) := by
 have h := zcv (W := zjd g) (z := default) (l := l) (fun i (n : Nat) => (nn, (), (n : Int), t13, t14, t15, t20, t21, t22, l, (l.length : Int), (i : Int), ())) (fun _ _ => (f, ())) (fun y n => .inl (max n (zbo y))) (fun n => (nn, (n : Int), t13, t14, t15, t20, t21, t22, f)) (fun i n => True)
  (fun i n hi hI => .inl ⟨_, rfl, trivial, fun H K D => by
   show (zgC g nn n t13 t14 t15 t20 t21 t22 l l.length i f).ev H K D = _
   unfold zgC
   simp only [Wy.ev_i, Wy.ev_k, Wy.ev_h, Wy.ev_bn, Wy.ev_d, tT, hi, hg _ (zM hi), zJs]
   rw [zfe (by omega)]⟩)
  (fun n hI H K D => by
   show (zgC g nn n t13 t14 t15 t20 t21 t22 l l.length l.length f).ev H K D = _
   unfold zgC
   simp only [Wy.ev_i, Wy.ev_k, tT, Nat.lt_irrefl]) fuel 0 n (by omega) (Nat.zero_le _) trivial
 rw [List.drop_zero, zcu, zRi] at h
 exact h
theorem zUs (l : List Weighted) (hl : l.length ≤ 1000000) (hg : ∀ y ∈ l, g y.Ann = (true, (zbo y.Ann : Int))) (nn : Int) (t13 : List Term) (t14 t15 : Int) (t20 : List Factor) (t21 t22 : Int) (fuel n : Nat) (hf : l.length < fuel) :
  zrl g fuel nn n t13 t14 t15 t20 t21 t22 l l.length 0 = (true, (nn, ((max n (zi6 l) : Nat) : Int), t13, t14, t15, t20, t21, t22)) := by
 have h := zcv (W := zi1 g) (z := default) (l := l) (fun i (n : Nat) => (nn, (n : Int), t13, t14, t15, t20, t21, t22, l, (l.length : Int), (i : Int), ())) (fun _ _ => ()) (fun y n => .inl (max n (zbo y.Ann))) (fun n => (nn, (n : Int), t13, t14, t15, t20, t21, t22)) (fun i n => True)
  (fun i n hi hI => .inl ⟨_, rfl, trivial, fun H K D => by
   show (zgs g nn n t13 t14 t15 t20 t21 t22 l l.length i).ev H K D = _
   unfold zgs
   simp only [Wy.ev_i, Wy.ev_k, Wy.ev_h, Wy.ev_bn, Wy.ev_d, tT, hi, hg _ (zM hi), zJs]
   rw [zfe (by omega)]⟩)
  (fun n hI H K D => by
   show (zgs g nn n t13 t14 t15 t20 t21 t22 l l.length l.length).ev H K D = _
   unfold zgs
   simp only [Wy.ev_i, Wy.ev_k, tT, Nat.lt_irrefl]) fuel 0 n (by omega) (Nat.zero_le _) trivial
 rw [List.drop_zero, zcu, zPM] at h
 exact h
def NesG (x : Atom) : Prop := (x.Args.length ≤ 1000000 ∧ x.Items.length ≤ 1000000) ∧ (zmg x ≤ 1000 ∧ (∀ y ∈ x.Args, zbo y ≤ 1000) ∧ ∀ y ∈ x.Items, zbo y.Ann ≤ 1000) ∧ (∀ y ∈ x.Args, g y = (true, (zbo y : Int))) ∧ ∀ y ∈ x.Items, g y.Ann = (true, (zbo y.Ann : Int))
theorem zU7 (l : List Factor) (hl : l.length ≤ 1000000) (hg : ∀ f ∈ l, NesG g f.Atom) (t13 : List Term) (t14 t15 : Int) (fuel n : Nat) (hf : l.length < fuel) :
  zsQ g fuel n t13 t14 t15 l l.length 0 = (true, (((max n (zdK l) : Nat) : Int), t13, t14, t15)) := by
 have h := zcv (W := zjI g) (z := default) (l := l) (fun i (n : Nat) => ((n : Int), t13, t14, t15, l, (l.length : Int), (i : Int), ())) (fun _ _ => ()) (fun y n => .inl (max n (zmg y.Atom))) (fun n => ((n : Int), t13, t14, t15)) (fun i n => True)
  (fun i n hi hI => .inl ⟨_, rfl, trivial, fun H K D => by
   obtain ⟨⟨h1, h2⟩, ⟨h5, _, _⟩, h3, h4⟩ := hg _ (zM hi)
   show (zhb g n t13 t14 t15 l l.length i).ev H K D = _
   unfold zhb
   simp only [Wy.ev_i, Wy.ev_k, Wy.ev_h, Wy.ev_bn, Wy.ev_d, tT, hi, Atom.eta]
   generalize l.getD i default = f at *
   rw [zvv] at h5 ⊢
   by_cases hk : f.Atom.Kind = 0
   ·have e : (f.Atom.Kind == 0) = true := by simp [hk]
    simp only [e, cond_true]
    rw [if_pos hk, Nat.max_zero, zfe (by omega)]
   ·have e : (f.Atom.Kind == 0) = false := by simp [hk]
    simp only [e, cond_false]
    rw [if_neg hk] at h5 ⊢
    have q := fun fuel hf => zUN g _ h1 h3 n t13 t14 t15 l l.length i f fuel 0 hf
    rw [Nat.zero_max, show ((0 : Nat) : Int) = (0 : Int) from rfl] at q
    rw [q _ (by omega)]
    simp only [cond_true, Int.toNat_natCast]
    rw [zUs g _ h2 h4 n t13 t14 t15 l l.length i _ _ (by omega)]
    simp only [cond_true]
    rw [zfe (by omega), show (1 : Int) = ((1 : Nat) : Int) from rfl, zld (n := 1) (by omega), zJs]⟩)
  (fun n hI H K D => by
   show (zhb g n t13 t14 t15 l l.length l.length).ev H K D = _
   unfold zhb
   simp only [Wy.ev_i, Wy.ev_k, tT, Nat.lt_irrefl]) fuel 0 n (by omega) (Nat.zero_le _) trivial
 rw [List.drop_zero, zcu, zHo] at h
 exact h
theorem zU1 (l : List Term) (hl : l.length ≤ 1000000) (hg : ∀ t ∈ l, t.Factors.length ≤ 1000000 ∧ ∀ f ∈ t.Factors, NesG g f.Atom) (fuel n : Nat) (hf : l.length < fuel) :
  zsE g fuel n l l.length 0 = (true, ((max n (zbo l) : Nat) : Int)) := by
 have h := zcv (W := zjF g) (z := default) (l := l) (fun i (n : Nat) => ((n : Int), l, (l.length : Int), (i : Int), ())) (fun _ _ => ()) (fun y n => .inl (max n (zdK y.Factors))) (fun n => (n : Int)) (fun i n => True)
  (fun i n hi hI => .inl ⟨_, rfl, trivial, fun H K D => by
   obtain ⟨h1, h3⟩ := hg _ (zM hi)
   show (zhr g n l l.length i).ev H K D = _
   unfold zhr
   simp only [Wy.ev_i, Wy.ev_k, Wy.ev_h, Wy.ev_bn, Wy.ev_d, tT, hi, Atom.eta]
   rw [zU7 g _ h1 h3 _ _ _ _ _ (by omega)]
   simp only [cond_true]
   rw [zfe (by omega)]⟩)
  (fun n hI H K D => by
   show (zhr g n l l.length l.length).ev H K D = _
   unfold zhr
   simp only [Wy.ev_i, Wy.ev_k, tT, Nat.lt_irrefl]) fuel 0 n (by omega) (Nat.zero_le _) trivial
 rw [List.drop_zero, zcu, zNB] at h
 exact h
theorem zTW (x : Atom) (hx : NesG g x) (a : List Term) (most i k : Int) (fuel n : Nat) (hf : x.Args.length < fuel) :
  zqG g fuel a most i k ((1 + n : Nat) : Int) 0 x = (true, (a, most, i, k, ((1 + max n (zkb x.Args) : Nat) : Int), x)) := by
 obtain ⟨⟨h1, h2⟩, ⟨h5, h6, h7⟩, h3, h4⟩ := hx
 have h := zcv (W := zmL g) (z := default) (l := x.Args) (fun j (n : Nat) => (a, most, i, k, (), (n : Int), (j : Int), ())) (fun _ _ => (x, ())) (fun y n => .inl (max n (1 + zbo y))) (fun n => (a, most, i, k, (n : Int), x)) (fun i n => True)
  (fun j n hi hI => .inl ⟨_, rfl, trivial, fun H K D => by
   have h8 := h6 _ (zM hi)
   show (zjO g a most i k n j x).ev H K D = _
   unfold zjO
   simp only [Wy.ev_i, Wy.ev_k, Wy.ev_h, Wy.ev_bn, Wy.ev_d, tT, hi, h3 _ (zM hi)]
   rw [zfe (by omega), show (1 : Int) = ((1 : Nat) : Int) from rfl, zld (n := 1) (by omega), zJs]⟩)
  (fun n hI H K D => by
   show (zjO g a most i k n x.Args.length x).ev H K D = _
   unfold zjO
   simp only [Wy.ev_i, Wy.ev_k, tT, Nat.lt_irrefl]) fuel 0 (1 + n) (by omega) (Nat.zero_le _) trivial
 rw [List.drop_zero, zcu, zPR] at h
 exact h
theorem zTv (x : Atom) (hx : NesG g x) (a : List Term) (most i k : Int) (fuel n : Nat) (hf : x.Items.length < fuel) :
  zwU g fuel a most i k ((1 + n : Nat) : Int) 0 x = (true, (a, most, i, k, ((1 + max n (zi6 x.Items) : Nat) : Int))) := by
 obtain ⟨⟨h1, h2⟩, ⟨h5, h6, h7⟩, h3, h4⟩ := hx
 have h := zcv (W := zmR g) (z := default) (l := x.Items) (fun j (n : Nat) => (a, most, i, k, (), (n : Int), (j : Int), ())) (fun _ _ => (x, ())) (fun y n => .inl (max n (1 + zbo y.Ann))) (fun n => (a, most, i, k, (n : Int))) (fun i n => True)
  (fun j n hi hI => .inl ⟨_, rfl, trivial, fun H K D => by
   have h8 := h7 _ (zM hi)
   show (zjQ g a most i k n j x).ev H K D = _
   unfold zjQ
   simp only [Wy.ev_i, Wy.ev_k, Wy.ev_h, Wy.ev_bn, Wy.ev_d, tT, hi, h4 _ (zM hi)]
   rw [zfe (by omega), show (1 : Int) = ((1 : Nat) : Int) from rfl, zld (n := 1) (by omega), zJs]⟩)
  (fun n hI H K D => by
   show (zjQ g a most i k n x.Items.length x).ev H K D = _
   unfold zjQ
   simp only [Wy.ev_i, Wy.ev_k, tT, Nat.lt_irrefl]) fuel 0 (1 + n) (by omega) (Nat.zero_le _) trivial
 rw [List.drop_zero, zcu, zOx] at h
 exact h
theorem RNes_12' (x : Atom) (hx : NesG g x) (a : List Term) (most i k : Int) (fuel : Nat) (hf : x.Args.length < fuel) : zqG g fuel a most i k 1 0 x = (true, (a, most, i, k, ((1 + zkb x.Args : Nat) : Int), x)) := by
 have h := zTW g x hx a most i k fuel 0 hf
 rw [Nat.zero_max] at h; exact h
theorem zUk (a : List Term) (i : Nat) (hi : i < a.length) (hla : a.length ≤ 1000000) (l : List Factor) (el : (a.getD i default).Factors = l) (hl : l.length ≤ 1000000) (hg : ∀ f ∈ l, NesG g f.Atom) (fuel n : Nat) (hf : l.length < fuel) :
  zyT g fuel a n i 0 = (true, (a, ((max n (zdK l) : Nat) : Int), (i : Int))) := by
 have h := zcv (W := znF g) (z := default) (l := l) (fun k (n : Nat) => (a, (n : Int), (i : Int), (k : Int), ())) (fun _ _ => ()) (fun y n => .inl (max n (zmg y.Atom))) (fun n => (a, (n : Int), (i : Int))) (fun k n => True)
  (fun k n hk hI => .inl ⟨_, rfl, trivial, fun H K D => by
   have hx := hg _ (zM hk)
   have h5 := hx.2.1.1
   show (zkC g a n i k).ev H K D = _
   unfold zkC
   simp only [Wy.ev_i, Wy.ev_k, Wy.ev_h, Wy.ev_bn, Wy.ev_d, tT, hi, el, hk, Atom.eta]
   generalize l.getD k default = f at *
   rw [zvv] at h5 ⊢
   by_cases hz : f.Atom.Kind = 0
   ·have e : (f.Atom.Kind == 0) = true := by simp [hz]
    simp only [e, cond_true]
    rw [if_pos hz, Nat.max_zero, zfe (by omega)]
   ·have e : (f.Atom.Kind == 0) = false := by simp [hz]
    have hx1 := hx.1
    simp only [e, cond_false]
    rw [if_neg hz] at h5 ⊢
    rw [RNes_12' g _ hx _ _ _ _ _ (by omega)]
    simp only [cond_true, Int.toNat_natCast, Atom.eta]
    rw [zTv g _ hx _ _ _ _ _ _ (by omega)]
    simp only [cond_true]
    rw [zfe (by omega), zJs]⟩)
  (fun n hI H K D => by
   show (zkC g a n i l.length).ev H K D = _
   unfold zkC
   simp only [Wy.ev_i, Wy.ev_k, tT, hi, el, Nat.lt_irrefl]) fuel 0 n (by omega) (Nat.zero_le _) trivial
 rw [List.drop_zero, zcu, zHo] at h
 exact h
theorem zUP (l : List Term) (hl : l.length ≤ 1000000) (hg : ∀ t ∈ l, t.Factors.length ≤ 1000000 ∧ ∀ f ∈ t.Factors, NesG g f.Atom) (fuel n : Nat) (hf : l.length < fuel) :
  zza g fuel l n 0 = (true, ((max n (zbo l) : Nat) : Int)) := by
 have h := zcv (W := znD g) (z := default) (l := l) (fun i (n : Nat) => (l, (n : Int), (i : Int), ())) (fun _ _ => ()) (fun y n => .inl (max n (zdK y.Factors))) (fun n => (n : Int)) (fun i n => True)
  (fun i n hi hI => .inl ⟨_, rfl, trivial, fun H K D => by
   obtain ⟨h1, h3⟩ := hg _ (zM hi)
   have hz := zB8 l i hi
   show (zkx g l n i).ev H K D = _
   unfold zkx
   simp only [Wy.ev_i, Wy.ev_k, Wy.ev_h, Wy.ev_bn, Wy.ev_d, tT, hi, Atom.eta]
   rw [zUk g l i hi hl _ rfl h1 h3 _ _ (by omega)]
   simp only [cond_true]
   rw [zfe (by omega)]⟩)
  (fun n hI H K D => by
   show (zkx g l n l.length).ev H K D = _
   unfold zkx
   simp only [Wy.ev_i, Wy.ev_k, tT, Nat.lt_irrefl]) fuel 0 n (by omega) (Nat.zero_le _) trivial
 rw [List.drop_zero, zcu, zNB] at h
 exact h
end
theorem zMf : ∀ (n d : Nat) (a : List Term), zF d a → d ≤ n → d ≤ 100 → zeP n a = (true, (zbo a : Int)) ∧ zi4 n a = (true, (zbo a : Int))
 | n, 0, a, h, hd, hs => h.elim
 | 0, d + 1, a, h, hd, hs => by omega
 | n + 1, d + 1, a, h, hd, hs => by
  have hg := fun y (hy : zF d y) => zMf n d y hy (by omega) (by omega)
  have hsub : ∀ t ∈ a, t.Factors.length ≤ 1000000 ∧ ∀ f ∈ t.Factors, NesG (zeP n) f.Atom ∧ NesG (zi4 n) f.Atom := fun t ht => by
   obtain ⟨h1, h2⟩ := zEB h ht
   refine ⟨h1, fun f hf => ?_⟩
   obtain ⟨h3, h4, h5⟩ := h2 f hf
   have q1 : ∀ y ∈ f.Atom.Args, zbo y ≤ d := fun y hy => zGj d y (h4 y hy)
   have q2 : ∀ y ∈ f.Atom.Items, zbo y.Ann ≤ d := fun y hy => zGj d y.Ann (h5 y hy)
   have q3 : zmg f.Atom ≤ 1000 := by
    have r1 := zLe _ q1; have r2 := zKa _ q2
    rw [zvv]; split <;> omega
   have q4 : zmg f.Atom ≤ 1000 ∧ (∀ y ∈ f.Atom.Args, zbo y ≤ 1000) ∧ ∀ y ∈ f.Atom.Items, zbo y.Ann ≤ 1000 := ⟨q3, fun y hy => by have := q1 y hy; omega, fun y hy => by have := q2 y hy; omega⟩
   exact ⟨⟨h3, q4, fun y hy => (hg y (h4 y hy)).1, fun y hy => (hg _ (h5 y hy)).1⟩, ⟨h3, q4, fun y hy => (hg y (h4 y hy)).2, fun y hy => (hg _ (h5 y hy)).2⟩⟩
  constructor
  ·rw [zDe]
   unfold zlB znR
   have h1 := zU1 (zeP n) a h.1 (fun t ht => ⟨(hsub t ht).1, fun f hf => ((hsub t ht).2 f hf).1⟩) (Int.toNat 0 + a.length + (Int.ofNat a.length).toNat + Int.toNat 0 + 1) 0 (by omega)
   rw [show ((0 : Nat) : Int) = (0 : Int) from rfl, Nat.zero_max] at h1
   rw [Wy.fin_bn, show Int.ofNat a.length = (a.length : Int) from rfl] at *
   rw [h1]; rfl
  ·rw [zI0]
   unfold zqL ztj
   have h1 := zUP (zi4 n) a h.1 (fun t ht => ⟨(hsub t ht).1, fun f hf => ((hsub t ht).2 f hf).2⟩) (a.length + Int.toNat 0 + Int.toNat 0 + 1 + szTs a) 0 (by omega)
   rw [show ((0 : Nat) : Int) = (0 : Int) from rfl, Nat.zero_max] at h1
   rw [Wy.fin_bn, h1]; rfl
theorem zsk (x y : Int) : zd0 x y = (true, cmpI x y) := by
 unfold zd0 zte zng zvs cmpI
 by_cases h1 : x < y
 ·simp [h1, Wy.fin_i, Wy.fin_k]
 ·by_cases h2 : y < x <;> simp [h1, h2, Wy.fin_i, Wy.fin_k]
theorem zvY (x y : Int) : zhz x y = (true, cmpI x y) := by
 unfold zhz zqA zk0 ztb cmpI
 by_cases h1 : x < y
 ·simp [h1, Wy.fin_i, Wy.fin_k]
 ·by_cases h2 : y < x <;> simp [h1, h2, Wy.fin_i, Wy.fin_k]
def zoL : List Int → Int
 | [] => 0
 | x :: r => if x = 0 then zoL r else x
theorem zQi (l : List Int) (hl : l.length ≤ 1000000) : ∀ (n i : Nat), l.length < i + n → i ≤ l.length → ∃ r, zzF n 0 l l.length i = (true, r) ∧ (r = .inl (zoL (l.drop i)) ∨ (r = .inr 0 ∧ zoL (l.drop i) = 0))
 | 0, i, h, h2 => by omega
 | n + 1, i, h, h2 => by
  show ∃ r, (zzS 0 l l.length i).ev (fun x y => zzF n x.1 x.2.1 x.2.2.1 x.2.2.2.1) (fun r => (true, r)) (false, .inl default) = (true, r) ∧ _
  unfold zzS
  by_cases hi : i < l.length
  ·simp only [Wy.ev_i, Wy.ev_k, Wy.ev_h, Int.ofNat_eq_natCast, zCJ, zfh, decide_true, decide_false, Bool.and_self, Bool.true_and, Bool.and_true, cond_true, cond_false, Int.toNat_natCast, Bool.not_true, Bool.not_false, hi]
   obtain ⟨r, h1, h3⟩ := zQi l hl n (i + 1) (by omega) (by omega)
   rw [zbI hi, zbd (by omega), h1]
   generalize l.getD i default = x
   by_cases hx : x = 0
   ·have e : (x != 0) = false := by simp [hx]
    simp only [e, cond_false, zoL, hx, if_true]
    exact ⟨r, rfl, h3⟩
   ·have e : (x != 0) = true := by simp [hx]
    simp only [e, cond_true, zoL, hx, if_false]
    exact ⟨_, rfl, .inl rfl⟩
  ·simp only [Wy.ev_i, Wy.ev_k, Wy.ev_h, Int.ofNat_eq_natCast, zCJ, zfh, decide_true, decide_false, Bool.and_self, Bool.true_and, Bool.and_true, cond_true, cond_false, Int.toNat_natCast, Bool.not_true, Bool.not_false, hi, zeM hi]
   exact ⟨_, rfl, .inr ⟨rfl, rfl⟩⟩
theorem zp3 (l : List Int) (hl : l.length ≤ 1000000) : zlI l = (true, zoL l) := by
 unfold zlI zBV
 obtain ⟨r, h1, h2⟩ := zQi l hl (Int.toNat 0 + l.length + (Int.ofNat l.length).toNat + Int.toNat 0 + 1) 0 (by simp; omega) (by omega)
 rw [show ((0 : Nat) : Int) = (0 : Int) from rfl] at h1
 rw [Wy.fin_bn, show Int.ofNat l.length = (l.length : Int) from rfl] at *
 rw [h1]
 rw [List.drop_zero] at h2
 rcases h2 with rfl | ⟨rfl, h2⟩
 ·rfl
 ·rw [h2]; rfl
section
variable {α : Type}
def lexG (c : α → α → Int) : List α → List α → Int
 | [], [] => 0
 | [], _ :: _ => -1
 | _ :: _, [] => 1
 | x :: a, y :: b => if c x y = 0 then lexG c a b else c x y
theorem zD0 (e : α → TT) {c : α → α → Int} : ∀ (a b : List α), (∀ x ∈ a, ∀ y ∈ b, c x y = cmpT (e x) (e y)) → lexG c a b = cmpL (a.map e) (b.map e)
 | [], [], _ => by simp only [lexG, List.map, cmpL]
 | [], _ :: _, _ => by simp only [lexG, List.map, cmpL]
 | _ :: _, [], _ => by simp only [lexG, List.map, cmpL]
 | x :: a, y :: b, h => by
  simp only [lexG, List.map, cmpL]
  rw [h x (by simp) y (by simp), zD0 e a b fun x hx y hy => h x (by simp [hx]) y (by simp [hy])]
variable [Inhabited α]
def zN0 (g : α → α → Bool × Int) (s1 : List α) (s2 : List α) (t11 : List α) (t12 : Int) (t13 : Int) : Wy (List α × List α × Unit × List α × Int × Int × Unit) (Unit) (Int ⊕ (List α × List α)) := .i (decide (t13 < t12)) (.i (decide ((0 : Int) ≤ t13) && decide (t13 < Int.ofNat t11.length)) (.i (decide (t13 ≥ Int.ofNat s2.length)) (.k (.inl (1 : Int))) (.i (decide ((0 : Int) ≤ t13) && decide (t13 < Int.ofNat s2.length)) (.bn (g (t11.getD t13.toNat default) (s2.getD t13.toNat default)) fun r0 => .i (r0 != (0 : Int)) (.k (.inl (r0))) (.h (s1, s2, (), t11, t12, (IntKind.i64.wrap (t13 + (1 : Int))), ()) ())) .d)) .d) (.k (.inr (s1, s2)))
def zRa (g : α → α → Bool × Int) (x : List α × List α × Unit × List α × Int × Int × Unit) (y : Unit) : Wy (List α × List α × Unit × List α × Int × Int × Unit) (Unit) (Int ⊕ (List α × List α)) := zN0 g x.1 x.2.1 x.2.2.2.1 x.2.2.2.2.1 x.2.2.2.2.2.1
def zRd (g : α → α → Bool × Int) (n : Nat) (s1 : List α) (s2 : List α) (t11 : List α) (t12 : Int) (t13 : Int) : Bool × (Int ⊕ (List α × List α)) := z7 (zRa g) (.inl default) n (s1, s2, (), t11, t12, t13, ()) ()
def CF (g : α → α → Bool × Int) (s1 s2 : List α) : Bool × Int := (.bn (zRd g (s1.length + s2.length + s1.length + (Int.ofNat s1.length).toNat + Int.toNat (0 : Int) + (1 : Nat)) s1 s2 s1 (Int.ofNat s1.length) (0 : Int)) fun r2 => .i (isL r2) (.k (getL r2)) (.i (decide (Int.ofNat (getR r2).fst.length < Int.ofNat (getR r2).snd.length)) (.k (-1 : Int)) (.k (0 : Int))) : Wy0 Int).fin default
theorem zPZ (g : α → α → Bool × Int) (c : α → α → Int) (a b : List α) (ha : a.length ≤ 1000000) (hg : ∀ x ∈ a, ∀ y ∈ b, g x y = (true, c x y)) : ∀ (n i : Nat), a.length < i + n → i ≤ a.length → i ≤ b.length →
  ∃ r, zRd g n a b a a.length i = (true, r) ∧ ((r = .inl (lexG c (a.drop i) (b.drop i))) ∨ (r = .inr (a, b) ∧ lexG c (a.drop i) (b.drop i) = if a.length < b.length then -1 else 0))
 | 0, i, h, h2, h3 => by omega
 | n + 1, i, h, h2, h3 => by
  show ∃ r, (zN0 g a b a a.length i).ev (fun x y => zRd g n x.1 x.2.1 x.2.2.2.1 x.2.2.2.2.1 x.2.2.2.2.2.1) (fun r => (true, r)) (false, .inl default) = (true, r) ∧ _
  unfold zN0
  by_cases hi : i < a.length
  ·by_cases hi' : i < b.length
   ·have hg' : ¬ b.length ≤ i := by omega
    simp only [Wy.ev_i, Wy.ev_k, Wy.ev_h, Wy.ev_bn, Wy.ev_d, Int.ofNat_eq_natCast, zCJ, zfh, decide_true, decide_false, Bool.and_self, Bool.true_and, Bool.and_true, cond_true, cond_false, Int.toNat_natCast, Bool.not_true, Bool.not_false, hi, hi', zRF, hg', hg _ (zM hi) _ (zM hi')]
    rw [zbI hi, zbI hi', zbd (by omega)]
    simp only [lexG]
    generalize c (a.getD i default) (b.getD i default) = z
    by_cases hx : z = 0
    ·have e : (z != 0) = false := by simp [hx]
     simp only [e, cond_false, hx, if_true]
     exact zPZ g c a b ha hg n (i + 1) (by omega) (by omega) (by omega)
    ·have e : (z != 0) = true := by simp [hx]
     simp only [e, cond_true, hx, if_false]
     exact ⟨_, rfl, .inl rfl⟩
   ·have hg' : b.length ≤ i := by omega
    simp only [Wy.ev_i, Wy.ev_k, Wy.ev_h, Wy.ev_bn, Wy.ev_d, Int.ofNat_eq_natCast, zCJ, zfh, decide_true, decide_false, Bool.and_self, Bool.true_and, Bool.and_true, cond_true, cond_false, Int.toNat_natCast, Bool.not_true, Bool.not_false, hi, zRF, hg']
    refine ⟨_, rfl, .inl ?_⟩
    rw [zbI hi, zeM hi']; rfl
  ·simp only [Wy.ev_i, Wy.ev_k, Wy.ev_h, Wy.ev_bn, Wy.ev_d, Int.ofNat_eq_natCast, zCJ, zfh, decide_true, decide_false, Bool.and_self, Bool.true_and, Bool.and_true, cond_true, cond_false, Int.toNat_natCast, Bool.not_true, Bool.not_false, hi]
   refine ⟨_, rfl, .inr ⟨rfl, ?_⟩⟩
   rw [zeM hi]
   by_cases hi' : i < b.length
   ·rw [zbI hi', if_pos (by omega)]; rfl
   ·rw [zeM hi', if_neg (by omega)]; rfl
theorem zUZ (g : α → α → Bool × Int) (c : α → α → Int) (a b : List α) (ha : a.length ≤ 1000000) (hg : ∀ x ∈ a, ∀ y ∈ b, g x y = (true, c x y)) : CF g a b = (true, lexG c a b) := by
 unfold CF
 obtain ⟨r, h1, h2⟩ := zPZ g c a b ha hg (a.length + b.length + a.length + (Int.ofNat a.length).toNat + Int.toNat 0 + 1) 0 (by simp; omega) (by omega) (by omega)
 rw [show ((0 : Nat) : Int) = (0 : Int) from rfl] at h1
 rw [Wy.fin_bn, show Int.ofNat a.length = (a.length : Int) from rfl] at *
 rw [h1]
 simp only [List.drop_zero] at h2
 rcases h2 with rfl | ⟨rfl, h2⟩
 ·rfl
 ·rw [h2]
  simp only [Wy.fin_i, Wy.fin_k, Int.ofNat_eq_natCast, zCJ, zfh, decide_true, decide_false, Bool.and_self, Bool.true_and, Bool.and_true, cond_true, cond_false, Int.toNat_natCast, Bool.not_true, Bool.not_false, isL, getR]
  by_cases h3 : a.length < b.length <;> simp [h3]
end
theorem zJr {α : Type} [Inhabited α] (e : α → TT) (g : α → α → Bool × Int) (a b : List α) (ha : a.length ≤ 1000000) (hg : ∀ x ∈ a, ∀ y ∈ b, g x y = (true, cmpT (e x) (e y))) : CF g a b = (true, cmpL (a.map e) (b.map e)) := by
 rw [zUZ g (fun x y => cmpT (e x) (e y)) a b ha hg, zD0 e a b fun _ _ _ _ => rfl]
theorem Factor.eta2 (x : Factor) : (FactorOf.mk (Atom.mk x.Atom.Kind x.Atom.Row x.Atom.Args x.Atom.Func x.Atom.Items x.Atom.Op x.Atom.Bound) x.Exp : Factor) = x := by rw [Atom.eta]
theorem zST (g) : zbz g = CF g := rfl
theorem zQC (g) : zbm g = CF g := by
 have h : zbf g = zRa g := by
  funext x y
  unfold zbf zdg zRa zN0
  rw [Factor.eta2, Factor.eta2]
 funext a b
 unfold zbm zbZ zdh
 rw [h]; rfl
theorem zUc (g) : zbi g = CF g := rfl
theorem zSI (g) : zbt g = CF g := rfl
theorem zB2 (a b : Value) : znj a b = (true, cmpT (trV a) (trV b)) := by
 unfold znj zwr
 have h : (strings_Compare a.Text b.Text).2 = cmpT (trB a.Text) (trB b.Text) := by rw [← zQc]; rfl
 simp only [zsk, zvY, Wy.fin_bn, cond_true, h]
 rw [zp3 _ (by simp)]
 simp only [Wy.fin_k, cond_true, trV, cmpT, cmpL, zoL]
 rfl
theorem zFa : ∀ n,
  (∀ d a b, zF d a → 10 * d ≤ n → zeS n a b = (true, cmpL (zcL a) (zcL b))) ∧
  (∀ d a b, zF d a → 10 * d ≤ n + 1 → zby n a b = (true, cmpL (zcL a) (zcL b))) ∧
  (∀ d x y, zfc (zF d) x.Factors → 10 * d + 10 ≤ n + 2 → zhe n x y = (true, cmpT (zsg x) (zsg y))) ∧
  (∀ d x y, zfc (zF d) x.Factors → 10 * d + 10 ≤ n + 3 → zfD n x y = (true, cmpL (zbw x.Factors) (zbw y.Factors))) ∧
  (∀ d l l', zfc (zF d) l → 10 * d + 10 ≤ n + 4 → zbE n l l' = (true, cmpL (zbw l) (zbw l'))) ∧
  (∀ d x y, zdc (zF d) x.Atom → 10 * d + 10 ≤ n + 5 → zeJ n x y = (true, cmpT (zmw x) (zmw y))) ∧
  (∀ d x y, zdc (zF d) x → 10 * d + 10 ≤ n + 6 → zfT n x y = (true, cmpT (zdw x) (zdw y))) ∧
  (∀ d a b, a.length ≤ 1000000 → (∀ x ∈ a, zF d x) → 10 * d + 10 ≤ n + 7 → zbh n a b = (true, cmpL (zqt a) (zqt b))) ∧
  (∀ d a b, a.length ≤ 1000000 → (∀ x ∈ a, zF d x.Ann) → 10 * d + 10 ≤ n + 7 → zbs n a b = (true, cmpL (zf0 a) (zf0 b))) ∧
  (∀ d x y, zF d x.Ann → 10 * d + 10 ≤ n + 8 → zd8 n x y = (true, cmpT (zeY x) (zeY y)))
 | 0 => by
  refine ⟨?_, ?_, ?_, ?_, ?_, ?_, ?_, ?_, ?_, ?_⟩
  ·intro d a b h hd; have : d = 0 := by omega
   subst this; exact h.elim
  ·intro d a b h hd; have : d = 0 := by omega
   subst this; exact h.elim
  all_goals (intros; omega)
 | n + 1 => by
  obtain ⟨h1, h2, h3, h4, h5, h6, h7, h8, h9, h10⟩ := zFa n
  refine ⟨?_, ?_, ?_, ?_, ?_, ?_, ?_, ?_, ?_, ?_⟩
  ·intro d a b h hd
   rw [zDm]
   unfold zlO znH
   rw [Wy.fin_bn, h2 d a b h (by omega)]; rfl
  ·intro d a b h hd
   cases d with
   | zero => exact h.elim
   | succ d =>
    rw [zgP, zST, zyn, zyn]
    exact zJr zsg _ a b h.1 fun x hx y hy => h3 d x y (h.2 x hx) (by omega)
  ·intro d x y h hd
   rw [zzQ]
   unfold zjL zlR
   rw [Wy.fin_bn, h4 d x y h (by omega)]
   simp only [cond_true, Wy.fin_bn, zvY]
   rw [zp3 _ (by simp)]
   obtain ⟨c, l⟩ := x; obtain ⟨c', l'⟩ := y
   simp only [cond_true, Wy.fin_k, zoL, zsg, cmpT, cmpL]
   rfl
  ·intro d x y h hd
   rw [zx5]
   unfold ziq zkE
   rw [Wy.fin_bn, h5 d _ _ h (by omega)]; rfl
  ·intro d l l' h hd
   rw [zht, zQC, zqb, zqb]
   exact zJr zmw _ l l' h.1 fun x hx y hy => h6 d x y (h.2 x hx) (by omega)
  ·intro d x y h hd
   rw [zwk]
   unfold zhO zjz
   rw [Atom.eta, Atom.eta, Wy.fin_bn, h7 d _ _ h (by omega)]
   simp only [cond_true, Wy.fin_bn, zsk]
   rw [zp3 _ (by simp)]
   obtain ⟨c, l⟩ := x; obtain ⟨c', l'⟩ := y
   simp only [cond_true, Wy.fin_k, zoL, zmw, cmpT, cmpL]
   rfl
  ·intro d x y h hd
   rw [zxQ]
   unfold zis zkr
   simp only [cond_true, Wy.fin_bn, zsk, zB2, h8 d x.Args y.Args h.1.1 h.2.1 (by omega), h9 d x.Items y.Items h.1.2.1 (fun w hw => (h.2.2 w hw).2) (by omega)]
   rw [zp3 _ (by simp)]
   obtain ⟨k, r, a, f, i, o, v⟩ := x; obtain ⟨k', r', a', f', i', o', v'⟩ := y
   simp only [cond_true, Wy.fin_k, zoL, zdw, cmpT, cmpL]
   rfl
  ·intro d a b h0 h hd
   rw [zek, zUc, zwo, zwo]
   exact zJr (fun x => TT.l (zcL x)) _ a b h0 fun x hx y hy => by rw [h1 d x y (h x hx) (by omega)]; simp only [cmpT]
  ·intro d a b h0 h hd
   rw [zfg, zSI, znV, znV]
   exact zJr zeY _ a b h0 fun x hx y hy => h10 d x y (h x hx) (by omega)
  ·intro d x y h hd
   rw [zxx]
   unfold zit zkA
   simp only [cond_true, Wy.fin_bn, zB2, h1 d _ _ h (by omega)]
   rw [zp3 _ (by simp)]
   obtain ⟨c, l⟩ := x; obtain ⟨c', l'⟩ := y
   simp only [cond_true, Wy.fin_k, zoL, zeY, cmpT, cmpL]
   rfl
theorem zFM {d : Nat} {a : List Term} (h : zF d a) (hd : d ≤ 100) (b : List Term) : zsj a b = (true, cmpL (zcL a) (zcL b)) := (zFa 1000).1 d a b h (by omega)
theorem zp9 {d : Nat} {x : Term} (h : zfc (zF d) x.Factors) (hd : d ≤ 99) (y : Term) : zbF x y = (true, cmpL (zbw x.Factors) (zbw y.Factors)) := (zFa 1000).2.2.2.1 d x y h (by omega)
theorem zpW {d : Nat} {x : Atom} (h : zdc (zF d) x) (hd : d ≤ 99) (y : Atom) : zhp x y = (true, cmpT (zdw x) (zdw y)) := (zFa 1000).2.2.2.2.2.2.1 d x y h (by omega)
theorem zAa {d : Nat} {x : Weighted} (h : zF d x.Ann) (hd : d ≤ 99) (y : Weighted) : zbu x y = (true, cmpT (zeY x) (zeY y)) := (zFa 1000).2.2.2.2.2.2.2.2.2 d x y h (by omega)
theorem zxk {d : Nat} {a : List Term} (h : zF d a) (hd : d ≤ 100) (b : List Term) : zic a b = (true, decide (a = b)) := by
 unfold zic zrO
 rw [Wy.fin_bn, zFM h hd]
 simp only [cond_true, Wy.fin_k]
 congr 1
 by_cases e : a = b
 ·subst e; rw [zHX]; simp
 ·have : cmpL (zcL a) (zcL b) ≠ 0 := fun h => e (zyY _ _ (zBn _ _ h))
  simp [e, this]
theorem zJY (s : ByteArray) : ∀ (n i : Nat) (r : List UInt8), s.size ≤ i + n → ByteArray.toList.loop s i r = r.reverse ++ s.data.toList.drop i
 | 0, i, r, h => by
  rw [ByteArray.toList.loop, if_neg (by omega), List.drop_eq_nil_of_le (by rw [← Lib.size_eq]; omega), List.append_nil]
 | n + 1, i, r, h => by
  rw [ByteArray.toList.loop]
  by_cases hi : i < s.size
  ·have hi' : i < s.data.toList.length := by rw [← Lib.size_eq]; exact hi
   rw [if_pos hi, zJY s n (i + 1) _ (by omega), List.drop_eq_getElem_cons hi', List.reverse_cons, List.append_assoc]
   congr 1
   have : s.get! i = s.data.toList[i] := by
    have h' : i < s.data.size := hi
    show s.data[i]! = s.data.toList[i]
    rw [getElem!_pos s.data i h']; rfl
   rw [this]; rfl
  ·rw [if_neg hi, List.drop_eq_nil_of_le (by rw [← Lib.size_eq]; omega), List.append_nil]
theorem zEi (s : ByteArray) : s.toList = s.data.toList := by
 rw [ByteArray.toList, zJY s s.size 0 [] (by omega)]; rfl
theorem zzw {s t : ByteArray} (h : s.data.toList = t.data.toList) : s = t := by
 cases s; cases t
 congr 1
 exact Array.toList_inj.1 h
theorem zRn (s t : ByteArray) : (s.toList == t.toList) = decide (s.data.toList = t.data.toList) := by
 rw [zEi, zEi]
 cases hb : (s.data.toList == t.data.toList) with
 | true => rw [decide_eq_true (beq_iff_eq.1 hb)]
 | false => rw [decide_eq_false (fun h => by rw [beq_iff_eq.2 h] at hb; cases hb)]
theorem zIW (s t : ByteArray) : (s.toList == t.toList) = decide (s = t) := by
 rw [zRn]
 by_cases h : s = t
 ·rw [decide_eq_true h, decide_eq_true (by rw [h])]
 ·rw [decide_eq_false h, decide_eq_false fun e => h (zzw e)]
theorem bne0 (z w : Int) : (z != w) = !decide (z = w) := by by_cases h : z = w <;> simp [h]
theorem zHc : ∀ a b : List UInt8, Op.bytesLess a b = decide (Lib.compareBytes a b < 0)
 | [], [] => by simp [Op.bytesLess, Lib.compareBytes]
 | _ :: _, [] => by simp [Op.bytesLess, Lib.compareBytes]
 | [], _ :: _ => by simp [Op.bytesLess, Lib.compareBytes]
 | x :: a, y :: b => by
  simp only [Op.bytesLess, Lib.compareBytes]
  by_cases p : x < y
  ·simp [p]
  ·by_cases q : y < x
   ·have hne : ¬ x = y := fun e => by subst e; exact p q
    simp [p, q, hne]
   ·have he : x = y := UInt8.toNat_inj.1 (by rw [UInt8.lt_iff_toNat_lt] at p q; omega)
    subst he
    simp [p, zHc a b]
theorem zBC (a b : Value) : zlc a b = (true, cmpT (trV a) (trV b)) := by
 unfold zlc zws zsz zCo
 rw [zIW, zEi, zEi, zHc, zQc]
 simp only [trV, cmpT, cmpL, cmpI]
 simp only [Wy.fin_i, Wy.fin_bn, Wy.fin_k, cond_true, bne0]
 by_cases h1 : a.Kind = b.Kind
 ·by_cases h2 : a.Int = b.Int
  ·by_cases h3 : a.Text = b.Text
   ·simp [h1, h2, h3, zRQ]
   ·have h4 : cmpT (trB a.Text) (trB b.Text) ≠ 0 := fun e => by
     have := zzE _ _ (TT.l.inj (zxT _ _ e))
     exact h3 (zzw this)
    have h5 := zPk (trB a.Text) (trB b.Text)
    simp only [trB, cmpT] at h4 h5
    simp only [trB, cmpT]
    rcases h5 with h5 | h5 | h5
    ·simp [h1, h2, h3, h5]
    ·exact absurd h5 h4
    ·simp [h1, h2, h3, h5]
  ·by_cases h3 : a.Int < b.Int
   ·simp [h1, h2, h3]
   ·simp [h1, h2, h3, show b.Int < a.Int by omega]
 ·by_cases h3 : a.Kind < b.Kind
  ·simp [h1, h3]
  ·simp [h1, h3, show b.Kind < a.Kind by omega]
theorem znB (x y : Int) : zcp x y = (true, cmpI x y) := by
 unfold zcp zxF cmpI
 by_cases h1 : x < y
 ·simp [h1, Wy.fin_i, Wy.fin_k]
 ·by_cases h2 : y < x <;> simp [h1, h2, Wy.fin_i, Wy.fin_k]
theorem zHD (x y : RowID) : zmq x y = (true, if cmpI x.Table y.Table = 0 then cmpI x.Seq y.Seq else cmpI x.Table y.Table) := by
 unfold zmq zrM
 simp only [znB, Wy.fin_i, Wy.fin_bn, Wy.fin_k, cond_true, bne0]
 by_cases h : cmpI x.Table y.Table = 0
 ·simp [h]
 ·simp [h]
section
variable {α : Type} [Inhabited α]
def zN4 (p q : α → α → Bool × Int) (a : List α) (b : List α) (i : Int) : Wy (List α × List α × Int × Unit) (Unit) (Int ⊕ (List α × List α)) := .i (decide (i < Int.ofNat a.length)) (.i (decide (i < Int.ofNat b.length)) (.i (decide ((0 : Int) ≤ i) && decide (i < Int.ofNat a.length)) (.i (decide ((0 : Int) ≤ i) && decide (i < Int.ofNat b.length)) (.bn (p (a.getD i.toNat default) (b.getD i.toNat default)) fun r1 => .i (r1 != (0 : Int)) (.k (.inl (r1))) (.i (decide ((0 : Int) ≤ i) && decide (i < Int.ofNat a.length)) (.i (decide ((0 : Int) ≤ i) && decide (i < Int.ofNat b.length)) (.bn (q (a.getD i.toNat default) (b.getD i.toNat default)) fun r0 => .i (r0 != (0 : Int)) (.k (.inl (r0))) (.h (a, b, (IntKind.i64.wrap (i + (1 : Int))), ()) ())) .d) .d)) .d) .d) (.k (.inr (a, b)))) (.k (.inr (a, b)))
def zQI (p q : α → α → Bool × Int) (x : List α × List α × Int × Unit) (y : Unit) : Wy (List α × List α × Int × Unit) (Unit) (Int ⊕ (List α × List α)) := zN4 p q x.1 x.2.1 x.2.2.1
def zQZ (p q : α → α → Bool × Int) (n : Nat) (a : List α) (b : List α) (i : Int) : Bool × (Int ⊕ (List α × List α)) := z7 (zQI p q) (.inl default) n (a, b, i, ()) ()
def RG (p q : α → α → Bool × Int) (a b : List α) : Bool × Int := (.bn (zQZ p q (a.length + b.length + Int.toNat (0 : Int) + (1 : Nat)) a b (0 : Int)) fun r5 => .i (isL r5) (.k (getL r5)) (.bn (zcp (Int.ofNat (getR r5).fst.length) (Int.ofNat (getR r5).snd.length)) fun r4 => .k r4) : Wy0 Int).fin default
theorem zPU (p q : α → α → Bool × Int) (c1 c2 : α → α → Int) (a b : List α) (ha : a.length ≤ 1000000) (hp : ∀ x ∈ a, ∀ y ∈ b, p x y = (true, c1 x y)) (hq : ∀ x ∈ a, ∀ y ∈ b, q x y = (true, c2 x y)) : ∀ (n i : Nat), a.length < i + n → i ≤ a.length → i ≤ b.length →
  ∃ r, zQZ p q n a b i = (true, r) ∧ ((r = .inl (lexG (fun x y => if c1 x y = 0 then c2 x y else c1 x y) (a.drop i) (b.drop i))) ∨ (r = .inr (a, b) ∧ lexG (fun x y => if c1 x y = 0 then c2 x y else c1 x y) (a.drop i) (b.drop i) = cmpI a.length b.length))
 | 0, i, h, h2, h3 => by omega
 | n + 1, i, h, h2, h3 => by
  show ∃ r, (zN4 p q a b i).ev (fun x y => zQZ p q n x.1 x.2.1 x.2.2.1) (fun r => (true, r)) (false, .inl default) = (true, r) ∧ _
  unfold zN4
  by_cases hi : i < a.length
  ·by_cases hi' : i < b.length
   ·simp only [Wy.ev_i, Wy.ev_k, Wy.ev_h, Wy.ev_bn, Wy.ev_d, tT, hi, hi', hp _ (zM hi) _ (zM hi'), hq _ (zM hi) _ (zM hi')]
    rw [zbI hi, zbI hi', zbd (by omega)]
    simp only [lexG]
    generalize c1 (a.getD i default) (b.getD i default) = z1
    generalize c2 (a.getD i default) (b.getD i default) = z2
    by_cases hx : z1 = 0
    ·have e : (z1 != 0) = false := by simp [hx]
     by_cases hx2 : z2 = 0
     ·have e2 : (z2 != 0) = false := by simp [hx2]
      simp only [e, e2, cond_false, hx, hx2, if_true]
      exact zPU p q c1 c2 a b ha hp hq n (i + 1) (by omega) (by omega) (by omega)
     ·have e2 : (z2 != 0) = true := by simp [hx2]
      simp only [e, e2, cond_false, cond_true, hx, hx2, if_true, if_false]
      exact ⟨_, rfl, .inl rfl⟩
    ·have e : (z1 != 0) = true := by simp [hx]
     simp only [e, cond_true, hx, if_false]
     exact ⟨_, rfl, .inl rfl⟩
   ·simp only [Wy.ev_i, Wy.ev_k, Wy.ev_h, Wy.ev_bn, Wy.ev_d, tT, hi, hi']
    refine ⟨_, rfl, .inr ⟨rfl, ?_⟩⟩
    rw [zbI hi, zeM hi']
    unfold cmpI; rw [if_neg (by omega), if_pos (by omega)]; rfl
  ·simp only [Wy.ev_i, Wy.ev_k, Wy.ev_h, Wy.ev_bn, Wy.ev_d, tT, hi]
   refine ⟨_, rfl, .inr ⟨rfl, ?_⟩⟩
   rw [zeM hi]
   by_cases hi' : i < b.length
   ·rw [zbI hi']; unfold cmpI; rw [if_pos (by omega)]; rfl
   ·rw [zeM hi']; unfold cmpI; rw [if_neg (by omega), if_neg (by omega)]; rfl
theorem zUX (p q : α → α → Bool × Int) (c1 c2 : α → α → Int) (a b : List α) (ha : a.length ≤ 1000000) (hp : ∀ x ∈ a, ∀ y ∈ b, p x y = (true, c1 x y)) (hq : ∀ x ∈ a, ∀ y ∈ b, q x y = (true, c2 x y)) : RG p q a b = (true, lexG (fun x y => if c1 x y = 0 then c2 x y else c1 x y) a b) := by
 unfold RG
 obtain ⟨r, h1, h2⟩ := zPU p q c1 c2 a b ha hp hq (a.length + b.length + Int.toNat 0 + 1) 0 (by simp; omega) (by omega) (by omega)
 rw [show ((0 : Nat) : Int) = (0 : Int) from rfl] at h1
 rw [Wy.fin_bn, h1]
 simp only [List.drop_zero] at h2
 rcases h2 with rfl | ⟨rfl, h2⟩
 ·rfl
 ·rw [h2]
  simp only [Wy.fin_i, Wy.fin_k, Wy.fin_bn, znB, tT, isL, getR]
end
theorem zMj {α : Type} [Inhabited α] (e : α → TT) (p q : α → α → Bool × Int) (c1 c2 : α → α → Int) (a b : List α) (ha : a.length ≤ 1000000) (hp : ∀ x ∈ a, ∀ y ∈ b, p x y = (true, c1 x y)) (hq : ∀ x ∈ a, ∀ y ∈ b, q x y = (true, c2 x y))
  (hc : ∀ x y, (if c1 x y = 0 then c2 x y else c1 x y) = cmpT (e x) (e y)) : RG p q a b = (true, cmpL (a.map e) (b.map e)) := by
 rw [zUX p q c1 c2 a b ha hp hq, zD0 e a b fun x _ y _ => hc x y]
theorem zS3 (g) : zqX g = RG (fun x y => g x.Factors y.Factors) (fun x y => zcp x.Coeff y.Coeff) := rfl
theorem zQJ (g) : zhR g = RG (fun x y => g x.Atom y.Atom) (fun x y => zcp x.Exp y.Exp) := by
 have h : zfU g = zQI (fun x y => g x.Atom y.Atom) (fun x y => zcp x.Exp y.Exp) := by
  funext x y
  unfold zfU zra zQI zN4
  rw [Atom.eta, Atom.eta]
 funext a b
 unfold zhR zmt zq1
 rw [h]; rfl
theorem zSS (g) : zlM g = RG (fun x y => zlc x.Value y.Value) (fun x y => g x.Ann y.Ann) := rfl
theorem zNw (gI) (g : List Term → List Term → Bool × Int) (a b : Atom) (ha : a.Args.length ≤ 1000000) (hg : ∀ x ∈ a.Args, ∀ y ∈ b.Args, g x y = (true, cmpL (zcL x) (zcL y))) : ∀ (n i : Nat), a.Args.length < i + n → i ≤ a.Args.length → i ≤ b.Args.length →
  ∃ r, znT gI g n i a b = (true, r) ∧ ((r = .inl (lexG (fun x y => cmpL (zcL x) (zcL y)) (a.Args.drop i) (b.Args.drop i)) ∧ lexG (fun x y => cmpL (zcL x) (zcL y)) (a.Args.drop i) (b.Args.drop i) ≠ 0) ∨ (r = .inr (a, b) ∧ lexG (fun x y => cmpL (zcL x) (zcL y)) (a.Args.drop i) (b.Args.drop i) = cmpI a.Args.length b.Args.length))
 | 0, i, h, h2, h3 => by omega
 | n + 1, i, h, h2, h3 => by
  show ∃ r, (znS gI g i a b).ev (fun x y => znT gI g n x.2.2.1 y.1 y.2.1) (fun r => (true, r)) (false, .inl default) = (true, r) ∧ _
  unfold znS
  by_cases hi : i < a.Args.length
  ·by_cases hi' : i < b.Args.length
   ·simp only [Wy.ev_i, Wy.ev_k, Wy.ev_h, Wy.ev_bn, Wy.ev_d, tT, hi, hi', hg _ (zM hi) _ (zM hi')]
    rw [zbI hi, zbI hi', zbd (by omega)]
    simp only [lexG]
    generalize cmpL (zcL (a.Args.getD i default)) (zcL (b.Args.getD i default)) = z1
    by_cases hx : z1 = 0
    ·have e : (z1 != 0) = false := by simp [hx]
     simp only [e, cond_false, hx, if_true]
     exact zNw gI g a b ha hg n (i + 1) (by omega) (by omega) (by omega)
    ·have e : (z1 != 0) = true := by simp [hx]
     simp only [e, cond_true, hx, if_false]
     exact ⟨_, rfl, .inl ⟨rfl, hx⟩⟩
   ·simp only [Wy.ev_i, Wy.ev_k, Wy.ev_h, Wy.ev_bn, Wy.ev_d, tT, hi, hi']
    refine ⟨_, rfl, .inr ⟨rfl, ?_⟩⟩
    rw [zbI hi, zeM hi']
    unfold cmpI; rw [if_neg (by omega), if_pos (by omega)]; rfl
  ·simp only [Wy.ev_i, Wy.ev_k, Wy.ev_h, Wy.ev_bn, Wy.ev_d, tT, hi]
   refine ⟨_, rfl, .inr ⟨rfl, ?_⟩⟩
   rw [zeM hi]
   by_cases hi' : i < b.Args.length
   ·rw [zbI hi']; unfold cmpI; rw [if_pos (by omega)]; rfl
   ·rw [zeM hi']; unfold cmpI; rw [if_neg (by omega), if_neg (by omega)]; rfl
theorem zUd (gI) (g : List Term → List Term → Bool × Int) (x y : Atom) (ha : x.Args.length ≤ 1000000) (hg : ∀ a ∈ x.Args, ∀ b ∈ y.Args, g a b = (true, cmpL (zcL a) (zcL b)))
  (hI : gI x.Items y.Items = (true, cmpL (zf0 x.Items) (zf0 y.Items))) : zj0 gI g x y = (true, cmpT (zdw x) (zdw y)) := by
 unfold zj0 zos
 rw [Atom.eta, Atom.eta]
 obtain ⟨r, h1, h2⟩ := zNw gI g x y ha hg (Int.toNat 0 + 1 + x.Args.length + x.Items.length + y.Args.length + y.Items.length) 0 (by omega) (by omega) (by omega)
 rw [show ((0 : Nat) : Int) = (0 : Int) from rfl] at h1
 simp only [List.drop_zero] at h2
 rw [zD0 (fun a => TT.l (zcL a)) x.Args y.Args (fun a _ b _ => by simp only [cmpT]), ← zwo, ← zwo] at h2
 simp only [znB, zHD, Wy.fin_bn, Wy.fin_i, Wy.fin_k, cond_true, h1]
 obtain ⟨k, r0, a, f, i, o, v⟩ := x; obtain ⟨k', r', a', f', i', o', v'⟩ := y
 simp only [zdw, cmpT, cmpL, bne0] at *
 by_cases e1 : cmpI k k' = 0
 rotate_left
 ·simp [e1]
 by_cases e2 : cmpI r0.Table r'.Table = 0
 rotate_left
 ·simp [e1, e2]
 by_cases e3 : cmpI r0.Seq r'.Seq = 0
 rotate_left
 ·simp [e1, e2, e3]
 rcases h2 with ⟨rfl, h2⟩ | ⟨rfl, h2⟩
 ·simp [e1, e2, e3, h2, isL, getL]
 simp only [e1, e2, e3, h2, isL, getR, tT, hI, if_true]
 by_cases e4 : cmpI (a.length : Int) (a'.length : Int) = 0
 rotate_left
 ·simp [e4]
 by_cases e5 : cmpI f f' = 0
 rotate_left
 ·simp [e4, e5]
 by_cases e6 : cmpL (zf0 i) (zf0 i') = 0
 rotate_left
 ·simp [e4, e5, e6]
 by_cases e7 : cmpI o o' = 0
 rotate_left
 ·simp [e4, e5, e6, e7]
 simp [e4, e5, e6, e7, zBC]
theorem zCr : ∀ n,
  (∀ d a b, zF d a → 10 * d ≤ n → zkU n a b = (true, cmpL (zcL a) (zcL b))) ∧
  (∀ d l l', zfc (zF d) l → 10 * d + 10 ≤ n + 1 → zhX n l l' = (true, cmpL (zbw l) (zbw l'))) ∧
  (∀ d x y, zdc (zF d) x → 10 * d + 10 ≤ n + 2 → zjP n x y = (true, cmpT (zdw x) (zdw y))) ∧
  (∀ d a b, a.length ≤ 1000000 → (∀ x ∈ a, zF d x.Ann) → 10 * d + 10 ≤ n + 3 → zja n a b = (true, cmpL (zf0 a) (zf0 b)))
 | 0 => by
  refine ⟨?_, ?_, ?_, ?_⟩
  ·intro d a b h hd; have : d = 0 := by omega
   subst this; exact h.elim
  all_goals (intros; omega)
 | n + 1 => by
  obtain ⟨h1, h2, h3, h4⟩ := zCr n
  refine ⟨?_, ?_, ?_, ?_⟩
  ·intro d a b h hd
   cases d with
   | zero => exact h.elim
   | succ d =>
    rw [zH9, zS3, zyn, zyn]
    exact zMj zsg _ _ (fun x y => cmpL (zbw x.Factors) (zbw y.Factors)) (fun x y => cmpI x.Coeff y.Coeff) a b h.1 (fun x hx y hy => h2 d _ _ (h.2 x hx) (by omega)) (fun x _ y _ => znB _ _) fun x y => by
     obtain ⟨c, l⟩ := x; obtain ⟨c', l'⟩ := y
     simp only [zsg, cmpT, cmpL]
     by_cases e : cmpI c c' = 0 <;> simp [e]
  ·intro d l l' h hd
   rw [zBa, zQJ, zqb, zqb]
   exact zMj zmw _ _ (fun x y => cmpT (zdw x.Atom) (zdw y.Atom)) (fun x y => cmpI x.Exp y.Exp) l l' h.1 (fun x hx y hy => h3 d _ _ (h.2 x hx) (by omega)) (fun x _ y _ => znB _ _) fun x y => by
    obtain ⟨c, l⟩ := x; obtain ⟨c', l'⟩ := y
    simp only [zmw, cmpT, cmpL]
    by_cases e : cmpI l l' = 0 <;> simp [e]
  ·intro d x y h hd
   rw [zEt]
   exact zUd _ _ x y h.1.1 (fun a ha b _ => h1 d a b (h.2.1 a ha) (by omega)) (h4 d _ _ h.1.2.1 (fun w hw => (h.2.2 w hw).2) (by omega))
  ·intro d a b h0 h hd
   rw [zC7, zSS, znV, znV]
   exact zMj zeY _ _ (fun x y => cmpT (trV x.Value) (trV y.Value)) (fun x y => cmpL (zcL x.Ann) (zcL y.Ann)) a b h0 (fun x _ y _ => zBC _ _) (fun x hx y _ => h1 d _ _ (h x hx) (by omega)) fun x y => by
    obtain ⟨c, l⟩ := x; obtain ⟨c', l'⟩ := y
    simp only [zeY, cmpT, cmpL]
    by_cases e : cmpL (zcL l) (zcL l') = 0 <;> simp [e]
theorem zKT {d : Nat} {a : List Term} (h : zF d a) (hd : d ≤ 100) (b : List Term) : zzN a b = (true, cmpL (zcL a) (zcL b)) := (zCr 1000).1 d a b h (by omega)
theorem znb {d : Nat} {l : List Factor} (h : zfc (zF d) l) (hd : d ≤ 99) (l' : List Factor) : zjb l l' = (true, cmpL (zbw l) (zbw l')) := (zCr 1000).2.1 d l l' h (by omega)
theorem zpB {d : Nat} {x : Atom} (h : zdc (zF d) x) (hd : d ≤ 99) (y : Atom) : zjl x y = (true, cmpT (zdw x) (zdw y)) := (zCr 1000).2.2.1 d x y h (by omega)
theorem zFo {d : Nat} {a : List Weighted} (h0 : a.length ≤ 1000000) (h : ∀ x ∈ a, zF d x.Ann) (hd : d ≤ 99) (b : List Weighted) : zrq a b = (true, cmpL (zf0 a) (zf0 b)) := (zCr 1000).2.2.2 d a b h0 h (by omega)
theorem zp5 {d : Nat} {a : List Term} (h : zF d a) (hd : d ≤ 100) (b : List Term) : zh7 a b = (true, decide (a = b)) := by
 unfold zh7 zCN
 rw [Wy.fin_bn, zKT h hd]
 simp only [cond_true, Wy.fin_k]
 congr 1
 by_cases e : a = b
 ·subst e; rw [zHX]; simp
 ·have : cmpL (zcL a) (zcL b) ≠ 0 := fun h => e (zyY _ _ (zBn _ _ h))
  simp [e, this]
end Go.Proofs.YtnolcogncjijpaaGreatDoor
end
