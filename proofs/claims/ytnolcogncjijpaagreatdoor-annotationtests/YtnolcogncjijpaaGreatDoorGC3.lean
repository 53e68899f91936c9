/- Texts of this claim, joined (the program, its functions in plain words, and what they compute). -/
import Derived.Test.YtnolcogncjijpaaGreatDoorGC1
import Derived.Test.YtnolcogncjijpaaGreatDoorGA2
import Derived.Test.YtnolcogncjijpaaGreatDoorGC2
import Derived.Test.YtnolcogncjijpaaGreatDoorGB1
set_option autoImplicit false
set_option linter.unusedVariables false
set_option linter.unusedSectionVars false
set_option linter.unusedSimpArgs false
set_option maxRecDepth 1000000
set_option maxHeartbeats 0
noncomputable section
namespace Go.Proofs.YtnolcogncjijpaaGreatDoor
open Go Go.Ab
def z93 : Cx ty := mkCx base 7 [(31, zc9)] [] [] [] [] []
def zw2 (b : Binding) : Wy0 (Bool) := .bn (zc5 b.To) fun r0 => .k (!r0)
def zrg (b : Binding) : Bool × Bool := (zw2 b).fin default
def zul (r : Bool) : ARes ty := ⟨[.pure (.lit (.bool r))], []⟩
def zwr : AL base (Binding × Unit) := aCons (aPure (vAgg 69)) aNil
def zig : Ab.Spec ty := mkSpec zwr fun x => ((zrg x.1).1, zul (zrg x.1).2)
theorem zml : Sound Tryz.prog base 91 zig :=
  sound_W (cx' := z93) draws base_ok mkSame (mkSpecs ⟨(zdk), trivial⟩) Tryz.call91 Tryz.func91 (c := body Tryz.f91) (by kernel_rfl) (loopsOK_of (l := []) (by kernel_rfl) trivial) (sg := ⟨[.pure], []⟩) (A := zwr) (res := zul) (W := fun x => zw2 x.1) (z := default) (fun x => by kernel_rfl) (fun _ => by kernel_rfl)
def zr9 (s : List Binding) (t7 : Int) (t8 : Int) : Wy (List Binding × Unit × Int × Int × Unit) (Unit) (Int ⊕ Unit) := .i (decide (t8 < t7)) (.i (decide ((0 : Int) ≤ t8) && decide (t8 < Int.ofNat s.length)) (.bn (zrg (s.getD t8.toNat default)) fun r0 => .i (r0) (.k (.inl t8)) (.h (s, (), t7, (IntKind.i64.wrap (t8 + (1 : Int))), ()) ())) .d) (.k (.inr ()))
def zex (x : List Binding × Unit × Int × Int × Unit) (y : Unit) : Wy (List Binding × Unit × Int × Int × Unit) (Unit) (Int ⊕ Unit) := zr9 x.1 x.2.2.1 x.2.2.2.1
def zsc (n : Nat) (s : List Binding) (t7 : Int) (t8 : Int) : Bool × (Int ⊕ Unit) := iterW (zex) (.inl default) n (s, (), t7, t8, ()) ()
def zi3 (r : Int ⊕ Unit) : LTree ty := .ite (isL r) (.done .ret [.lit (.int .i64 (getL r))] []) (.done (.exit 0) [] [])
def zjd : LL ty (List Binding × Unit × Int × Int × Unit) := llCons (lSl 69) (llCons (lFn 91 (llNil)) (llCons (lInt .i64) (llCons (lInt .i64) llNil)))
def zji : BL ty (Unit) := bNil
def zjc : Cx ty := mkCx base 19 [(91, zig)] [] [(2, [(0, .keep), (1, .keep), (7, .keep), (8, .keep)])] [(2, 1, []), (2, 0, [(4, .keep)])] [(2, spW zjd zji (zex) (.inl default) zi3 fun x y => (x.1.length + Int.toNat x.2.2.1 + Int.toNat x.2.2.2.1 + 1))] []
theorem zrl : LoopOK zjc (lp (body Tryz.f94) 0) := loopOK_W (id := 2) (V := zjd) (B := zji) (W := zex) (z := .inl default) (tr := zi3) (m := fun x y => (x.1.length + Int.toNat x.2.2.1 + Int.toNat x.2.2.2.1 + 1)) (by kernel_rfl) (by kernel_rfl) fun R H K x y => by kernel_rfl
def zjo (s : List Binding) : Wy0 (Int) := .bn (zsc (s.length + (Int.ofNat s.length).toNat + Int.toNat (0 : Int) + (1 : Nat)) s (Int.ofNat s.length) (0 : Int)) fun r2 => .i (isL r2) (.k (getL r2)) (.k (-1 : Int))
def ze9 (s : List Binding) : Bool × Int := (zjo s).fin default
def zix (r : Int) : ARes ty := ⟨[.pure (.lit (.int .i64 r))], []⟩
def zjp : AL base (List Binding × Unit × Unit) := aCons (aPure (vSl 69)) (aCons (aPure (vFn 91 vNil)) aNil)
def zic : Ab.Spec ty := mkSpec zjp fun x => ((ze9 x.1).1, zix (ze9 x.1).2)
theorem zqj : Sound Tryz.prog base 94 zic :=
  sound_W (cx' := zjc) draws base_ok mkSame (mkSpecs ⟨(zml), trivial⟩) Tryz.call94 Tryz.func94 (c := body Tryz.f94) (by kernel_rfl) (loopsOK_of (l := [lp (body Tryz.f94) 0]) (by kernel_rfl) ⟨zrl, trivial⟩) (sg := ⟨[.pure], []⟩) (A := zjp) (res := zix) (W := fun x => zjo x.1) (z := default) (fun x => by kernel_rfl) (fun _ => by kernel_rfl)
def zqv : Cx ty := mkCx base 9 [(91, zig), (94, zic)] [] [] [] [] []
def zhv (s : List Binding) : Wy0 (Bool) := .bn (ze9 s) fun r0 => .k (decide (r0 ≥ (0 : Int)))
def ze0 (s : List Binding) : Bool × Bool := (zhv s).fin default
def zg8 (r : Bool) : ARes ty := ⟨[.pure (.lit (.bool r))], []⟩
def zh1 : AL base (List Binding × Unit × Unit) := aCons (aPure (vSl 69)) (aCons (aPure (vFn 91 vNil)) aNil)
def zgh : Ab.Spec ty := mkSpec zh1 fun x => ((ze0 x.1).1, zg8 (ze0 x.1).2)
theorem zo9 : Sound Tryz.prog base 90 zgh :=
  sound_W (cx' := zqv) draws base_ok mkSame (mkSpecs ⟨(zml), (zqj), trivial⟩) Tryz.call90 Tryz.func90 (c := body Tryz.f90) (by kernel_rfl) (loopsOK_of (l := []) (by kernel_rfl) trivial) (sg := ⟨[.pure], []⟩) (A := zh1) (res := zg8) (W := fun x => zhv x.1) (z := default) (fun x => by kernel_rfl) (fun _ => by kernel_rfl)
def zbej : Cx ty := mkCx base0 18 [(31, zc9), (90, zgh), (91, zig), (92, z0p), (93, zie)] [] [] [] [] []
def z0d (a : List Term) (l : List Binding) : Wy0 (List Term × Int) := .bn (zc5 a) fun r2 => .i (!r2) (.k ([], (1 : Int))) (.bn (ze0 l) fun r1 => .i (r1) (.k ([], (1 : Int))) (.bn (z9m a l) fun r0 => .k (r0.fst, r0.snd)))
def z3j (a : List Term) (l : List Binding) : Bool × (List Term × Int) := (z0d a l).fin default
def zx8 (r : List Term × Int) : ARes ty := ⟨[.own 42 r.1, .pure (.lit (.int .i64 r.2))], []⟩
def z0u : AL base0 (List Term × List Binding × Unit) := aCons (aPure (vSl 42)) (aCons (aPure (vSl 69)) aNil)
def zwx : Ab.Spec ty := mkSpec z0u fun x => ((z3j x.1 x.2.1).1, zx8 (z3j x.1 x.2.1).2)
theorem z9q : Sound Tryz.prog base0 41 zwx :=
  sound_W (cx' := zbej) draws zlb mkSame (mkSpecs ⟨(zdk.nodr), (zo9.nodr), (zml.nodr), (zbeb), (zmc.nodr), trivial⟩) Tryz.call41 Tryz.func41 (c := body Tryz.f41) (by kernel_rfl) (loopsOK_of (l := []) (by kernel_rfl) trivial) (sg := ⟨[.own 42, .pure], []⟩) (A := z0u) (res := zx8) (W := fun x => z0d x.1 x.2.1) (z := default) (fun x => by kernel_rfl) (fun _ => by kernel_rfl)
def zbo8 : Cx ty := mkCx base0 84 [(13, zxt), (16, zxp), (18, zuj), (20, zu1), (25, zus), (27, zxo), (41, zwx), (51, z1w)] [] [] [] [] []
def zbke : Wy0 (Bool) := .k true
def zbnf : Bool × Bool := (zbke).fin default
def zbgs (r : Bool) : ARes ty := ⟨[.pure (.lit (.bool r))], []⟩
def zbj2 : AL base0 (Unit) := aNil
def zbdp : Ab.Spec ty := mkSpec zbj2 fun x => ((zbnf ).1, zbgs (zbnf ).2)
theorem zbmx : Sound Tryz.prog base0 11 zbdp :=
  sound_W (cx' := zbo8) draws zlb mkSame (mkSpecs ⟨(z4o), (z4z), (z1x.nodr), (z19.nodr), (z2q.nodr), (z5v.nodr), (z9q), (zbfq), trivial⟩) Tryz.call11 Tryz.func11 (c := body Tryz.f11) (by kernel_rfl) (loopsOK_of (l := []) (by kernel_rfl) trivial) (sg := ⟨[.pure], []⟩) (A := zbj2) (res := zbgs) (W := fun x => zbke ) (z := default) (fun x => by kernel_rfl) (fun _ => by kernel_rfl)
def zbp6 : Cx ty := mkCx base 9 [(39, z9t)] [] [] [] [] []
def zbdl (a : List Term) (b : List Term) : Wy0 (Bool) := .bn (zbav a b) fun r0 => .k (r0 == (0 : Int))
def zv8 (a : List Term) (b : List Term) : Bool × Bool := (zbdl a b).fin default
def zbhn (r : Bool) : ARes ty := ⟨[.pure (.lit (.bool r))], []⟩
def zbly : AL base (List Term × List Term × Unit) := aCons (aPure (vSl 42)) (aCons (aPure (vSl 42)) aNil)
def z41 : Ab.Spec ty := mkSpec zbly fun x => ((zv8 x.1 x.2.1).1, zbhn (zv8 x.1 x.2.1).2)
theorem zbd1 : Sound Tryz.prog base 24 z41 :=
  sound_W (cx' := zbp6) draws base_ok mkSame (mkSpecs ⟨(zbky), trivial⟩) Tryz.call24 Tryz.func24 (c := body Tryz.f24) (by kernel_rfl) (loopsOK_of (l := []) (by kernel_rfl) trivial) (sg := ⟨[.pure], []⟩) (A := zbly) (res := zbhn) (W := fun x => zbdl x.1 x.2.1) (z := default) (fun x => by kernel_rfl) (fun _ => by kernel_rfl)
def zbqa : Cx ty := mkCx base 26 [(24, z41)] [] [] [] [] []
def zbdh (a : List Term) (e : Int) (b : List Term) (f : Int) : Wy0 (Bool) := .i (e == f) (.bn (zv8 a b) fun r0 => .i (r0) (.i (e == (0 : Int)) (.k true) (.k (Int.ofNat a.length == (0 : Int)))) (.k false)) (.k false)
def z5r (a : List Term) (e : Int) (b : List Term) (f : Int) : Bool × Bool := (zbdh a e b f).fin default
def zbia (r : Bool) : ARes ty := ⟨[.pure (.lit (.bool r))], []⟩
def zblx : AL base (List Term × Int × List Term × Int × Unit) := aCons (aPure (vSl 42)) (aCons (aPure (vInt .i64)) (aCons (aPure (vSl 42)) (aCons (aPure (vInt .i64)) aNil)))
def zbf2 : Ab.Spec ty := mkSpec zblx fun x => ((z5r x.1 x.2.1 x.2.2.1 x.2.2.2.1).1, zbia (z5r x.1 x.2.1 x.2.2.1 x.2.2.2.1).2)
theorem zbns : Sound Tryz.prog base 15 zbf2 :=
  sound_W (cx' := zbqa) draws base_ok mkSame (mkSpecs ⟨(zbd1), trivial⟩) Tryz.call15 Tryz.func15 (c := body Tryz.f15) (by kernel_rfl) (loopsOK_of (l := []) (by kernel_rfl) trivial) (sg := ⟨[.pure], []⟩) (A := zblx) (res := zbia) (W := fun x => zbdh x.1 x.2.1 x.2.2.1 x.2.2.2.1) (z := default) (fun x => by kernel_rfl) (fun _ => by kernel_rfl)
def zbdt (r : Int) : ARes ty := ⟨[.pure (.lit (.int .i64 r))], []⟩
def zbi1 : AL base (List Term × Int × Int × Unit) := aCons (aPure (vSl 42)) (aCons (aPure (vInt .i64)) (aCons (aPure (vInt .i64)) aNil))
def zuy (F : List Term → Int → Int → Bool × Int) : Ab.Spec ty := mkSpec zbi1 fun x => ((F x.1 x.2.1 x.2.2.1).1, zbdt (F x.1 x.2.1 x.2.2.1).2)
def zzp (zo : List Term → Int → Int → Bool × Int) (a : List Term) (limit : Int) (deep : Int) (n_ : Int) (i : Int) (k : Int) (j : Int) (x_ : Atom) : Wy (List Term × Int × Int × Int × Int × Int × Unit × Int × Unit) (Atom × Unit) (List Term × Int × Int × Int × Int × Int × Atom) := .i (decide (j < Int.ofNat x_.Args.length)) (.i (decide (n_ ≤ limit)) (.i (decide ((0 : Int) ≤ j) && decide (j < Int.ofNat x_.Args.length)) (.bn (zo (x_.Args.getD j.toNat default) (IntKind.i64.wrap (limit - n_)) (IntKind.i64.wrap (deep - (1 : Int)))) fun r0 => .h (a, limit, deep, (IntKind.i64.wrap (n_ + r0)), i, k, (), (IntKind.i64.wrap (j + (1 : Int))), ()) (x_, ())) .d) (.k (a, limit, deep, n_, i, k, x_))) (.k (a, limit, deep, n_, i, k, x_))
def zyp (zo : List Term → Int → Int → Bool × Int) (x : List Term × Int × Int × Int × Int × Int × Unit × Int × Unit) (y : Atom × Unit) : Wy (List Term × Int × Int × Int × Int × Int × Unit × Int × Unit) (Atom × Unit) (List Term × Int × Int × Int × Int × Int × Atom) := zzp zo x.1 x.2.1 x.2.2.1 x.2.2.2.1 x.2.2.2.2.1 x.2.2.2.2.2.1 x.2.2.2.2.2.2.2.1 y.1
def zzz (zo : List Term → Int → Int → Bool × Int) (n : Nat) (a : List Term) (limit : Int) (deep : Int) (n_ : Int) (i : Int) (k : Int) (j : Int) (x_ : Atom) : Bool × (List Term × Int × Int × Int × Int × Int × Atom) := iterW (zyp zo) default n (a, limit, deep, n_, i, k, (), j, ()) (x_, ())
def z6t (r : List Term × Int × Int × Int × Int × Int × Atom) : LTree ty := .done (.exit 4) [.sl 42 r.1, .lit (.int .i64 r.2.1), .lit (.int .i64 r.2.2.1), .lit (.int .i64 r.2.2.2.1), .lit (.int .i64 r.2.2.2.2.1), .lit (.int .i64 r.2.2.2.2.2.1), .ptr 544 0] [.box (base.enc 48 r.2.2.2.2.2.2) false]
def z9x : LL ty (List Term × Int × Int × Int × Int × Int × Unit × Int × Unit) := llCons (lSl 42) (llCons (lInt .i64) (llCons (lInt .i64) (llCons (lInt .i64) (llCons (lInt .i64) (llCons (lInt .i64) (llCons (lPtrC 544 0) (llCons (lInt .i64) llNil)))))))
def z98 : BL ty (Atom × Unit) := bBox (llMap (fun x => (⟨x.1, ⟨x.2.1, x.2.2.1⟩, x.2.2.2.1, x.2.2.2.2.1, x.2.2.2.2.2.1, x.2.2.2.2.2.2.1, ⟨x.2.2.2.2.2.2.2.1, x.2.2.2.2.2.2.2.2.1, x.2.2.2.2.2.2.2.2.2.1⟩⟩ : Atom)) (fun x => (x.Kind, x.Row.Table, x.Row.Seq, x.Args, x.Func, x.Items, x.Op, x.Bound.Kind, x.Bound.Int, x.Bound.Text, ())) (fun _ => rfl) (llCons (lInt .i64) (llCons (lInt .i64) (llCons (lInt .i64) (llCons (lSl 23) (llCons (lInt .i64) (llCons (lSl 52) (llCons (lInt .i64) (llCons (lInt .i64) (llCons (lInt .i64) (llCons lStr llNil))))))))))) false (bNil)
def zzk (zo : List Term → Int → Int → Bool × Int) (a : List Term) (limit : Int) (deep : Int) (n_ : Int) (i : Int) (k : Int) (j : Int) (x_ : Atom) : Wy (List Term × Int × Int × Int × Int × Int × Unit × Int × Unit) (Atom × Unit) (List Term × Int × Int × Int × Int × Int) := .i (decide (j < Int.ofNat x_.Items.length)) (.i (decide (n_ ≤ limit)) (.i (decide ((0 : Int) ≤ j) && decide (j < Int.ofNat x_.Items.length)) (.i (decide ((0 : Int) ≤ j) && decide (j < Int.ofNat x_.Items.length)) (.bn (zo (x_.Items.getD j.toNat default).Ann (IntKind.i64.wrap (limit - n_)) (IntKind.i64.wrap (deep - (1 : Int)))) fun r2 => .h (a, limit, deep, (IntKind.i64.wrap (IntKind.i64.wrap (n_ + Int.ofNat (x_.Items.getD j.toNat default).Value.Text.size) + r2)), i, k, (), (IntKind.i64.wrap (j + (1 : Int))), ()) (x_, ())) .d) .d) (.k (a, limit, deep, n_, i, k))) (.k (a, limit, deep, n_, i, k))
def zzw (zo : List Term → Int → Int → Bool × Int) (x : List Term × Int × Int × Int × Int × Int × Unit × Int × Unit) (y : Atom × Unit) : Wy (List Term × Int × Int × Int × Int × Int × Unit × Int × Unit) (Atom × Unit) (List Term × Int × Int × Int × Int × Int) := zzk zo x.1 x.2.1 x.2.2.1 x.2.2.2.1 x.2.2.2.2.1 x.2.2.2.2.2.1 x.2.2.2.2.2.2.2.1 y.1
def zyv (zo : List Term → Int → Int → Bool × Int) (n : Nat) (a : List Term) (limit : Int) (deep : Int) (n_ : Int) (i : Int) (k : Int) (j : Int) (x_ : Atom) : Bool × (List Term × Int × Int × Int × Int × Int) := iterW (zzw zo) default n (a, limit, deep, n_, i, k, (), j, ()) (x_, ())
def z7c (r : List Term × Int × Int × Int × Int × Int) : LTree ty := .done (.exit 6) [.sl 42 r.1, .lit (.int .i64 r.2.1), .lit (.int .i64 r.2.2.1), .lit (.int .i64 r.2.2.2.1), .lit (.int .i64 r.2.2.2.2.1), .lit (.int .i64 r.2.2.2.2.2)] []
def zbai : LL ty (List Term × Int × Int × Int × Int × Int × Unit × Int × Unit) := llCons (lSl 42) (llCons (lInt .i64) (llCons (lInt .i64) (llCons (lInt .i64) (llCons (lInt .i64) (llCons (lInt .i64) (llCons (lPtrC 544 0) (llCons (lInt .i64) llNil)))))))
def z8v : BL ty (Atom × Unit) := bBox (llMap (fun x => (⟨x.1, ⟨x.2.1, x.2.2.1⟩, x.2.2.2.1, x.2.2.2.2.1, x.2.2.2.2.2.1, x.2.2.2.2.2.2.1, ⟨x.2.2.2.2.2.2.2.1, x.2.2.2.2.2.2.2.2.1, x.2.2.2.2.2.2.2.2.2.1⟩⟩ : Atom)) (fun x => (x.Kind, x.Row.Table, x.Row.Seq, x.Args, x.Func, x.Items, x.Op, x.Bound.Kind, x.Bound.Int, x.Bound.Text, ())) (fun _ => rfl) (llCons (lInt .i64) (llCons (lInt .i64) (llCons (lInt .i64) (llCons (lSl 23) (llCons (lInt .i64) (llCons (lSl 52) (llCons (lInt .i64) (llCons (lInt .i64) (llCons (lInt .i64) (llCons lStr llNil))))))))))) false (bNil)
def z06 (zo : List Term → Int → Int → Bool × Int) (a : List Term) (limit : Int) (deep : Int) (n_ : Int) (i : Int) (k : Int) : Wy (List Term × Int × Int × Int × Int × Int × Unit) (Unit) (List Term × Int × Int × Int × Int) := .i (decide ((0 : Int) ≤ i) && decide (i < Int.ofNat a.length)) (.i (decide (k < Int.ofNat (a.getD i.toNat default).Factors.length)) (.i (decide (n_ ≤ limit)) (.i (decide ((0 : Int) ≤ i) && decide (i < Int.ofNat a.length)) (.i (decide ((0 : Int) ≤ k) && decide (k < Int.ofNat (a.getD i.toNat default).Factors.length)) (.bn (zzz zo ((a.length + limit.toNat + deep.toNat + (IntKind.i64.wrap (IntKind.i64.wrap (IntKind.i64.wrap (n_ + Int.ofNat ((a.getD i.toNat default).Factors.getD k.toNat default).Atom.Items.length) + Int.ofNat ((a.getD i.toNat default).Factors.getD k.toNat default).Atom.Args.length) + Int.ofNat ((a.getD i.toNat default).Factors.getD k.toNat default).Atom.Bound.Text.size)).toNat + i.toNat + k.toNat + Int.toNat (0 : Int) + (1 : Nat)) + (Atom.mk ((a.getD i.toNat default).Factors.getD k.toNat default).Atom.Kind ((a.getD i.toNat default).Factors.getD k.toNat default).Atom.Row ((a.getD i.toNat default).Factors.getD k.toNat default).Atom.Args ((a.getD i.toNat default).Factors.getD k.toNat default).Atom.Func ((a.getD i.toNat default).Factors.getD k.toNat default).Atom.Items ((a.getD i.toNat default).Factors.getD k.toNat default).Atom.Op ((a.getD i.toNat default).Factors.getD k.toNat default).Atom.Bound).Args.length + (Atom.mk ((a.getD i.toNat default).Factors.getD k.toNat default).Atom.Kind ((a.getD i.toNat default).Factors.getD k.toNat default).Atom.Row ((a.getD i.toNat default).Factors.getD k.toNat default).Atom.Args ((a.getD i.toNat default).Factors.getD k.toNat default).Atom.Func ((a.getD i.toNat default).Factors.getD k.toNat default).Atom.Items ((a.getD i.toNat default).Factors.getD k.toNat default).Atom.Op ((a.getD i.toNat default).Factors.getD k.toNat default).Atom.Bound).Items.length) a limit deep (IntKind.i64.wrap (IntKind.i64.wrap (IntKind.i64.wrap (n_ + Int.ofNat ((a.getD i.toNat default).Factors.getD k.toNat default).Atom.Items.length) + Int.ofNat ((a.getD i.toNat default).Factors.getD k.toNat default).Atom.Args.length) + Int.ofNat ((a.getD i.toNat default).Factors.getD k.toNat default).Atom.Bound.Text.size)) i k (0 : Int) (Atom.mk ((a.getD i.toNat default).Factors.getD k.toNat default).Atom.Kind ((a.getD i.toNat default).Factors.getD k.toNat default).Atom.Row ((a.getD i.toNat default).Factors.getD k.toNat default).Atom.Args ((a.getD i.toNat default).Factors.getD k.toNat default).Atom.Func ((a.getD i.toNat default).Factors.getD k.toNat default).Atom.Items ((a.getD i.toNat default).Factors.getD k.toNat default).Atom.Op ((a.getD i.toNat default).Factors.getD k.toNat default).Atom.Bound)) fun r5 => .bn (zyv zo ((r5.fst.length + r5.snd.fst.toNat + r5.snd.snd.fst.toNat + r5.snd.snd.snd.fst.toNat + r5.snd.snd.snd.snd.fst.toNat + r5.snd.snd.snd.snd.snd.fst.toNat + Int.toNat (0 : Int) + (1 : Nat)) + (Atom.mk r5.snd.snd.snd.snd.snd.snd.Kind r5.snd.snd.snd.snd.snd.snd.Row r5.snd.snd.snd.snd.snd.snd.Args r5.snd.snd.snd.snd.snd.snd.Func r5.snd.snd.snd.snd.snd.snd.Items r5.snd.snd.snd.snd.snd.snd.Op r5.snd.snd.snd.snd.snd.snd.Bound).Args.length + (Atom.mk r5.snd.snd.snd.snd.snd.snd.Kind r5.snd.snd.snd.snd.snd.snd.Row r5.snd.snd.snd.snd.snd.snd.Args r5.snd.snd.snd.snd.snd.snd.Func r5.snd.snd.snd.snd.snd.snd.Items r5.snd.snd.snd.snd.snd.snd.Op r5.snd.snd.snd.snd.snd.snd.Bound).Items.length) r5.fst r5.snd.fst r5.snd.snd.fst r5.snd.snd.snd.fst r5.snd.snd.snd.snd.fst r5.snd.snd.snd.snd.snd.fst (0 : Int) (Atom.mk r5.snd.snd.snd.snd.snd.snd.Kind r5.snd.snd.snd.snd.snd.snd.Row r5.snd.snd.snd.snd.snd.snd.Args r5.snd.snd.snd.snd.snd.snd.Func r5.snd.snd.snd.snd.snd.snd.Items r5.snd.snd.snd.snd.snd.snd.Op r5.snd.snd.snd.snd.snd.snd.Bound)) fun r4 => .h ((r4.fst), (r4.snd.fst), (r4.snd.snd.fst), (r4.snd.snd.snd.fst), (r4.snd.snd.snd.snd.fst), (IntKind.i64.wrap (r4.snd.snd.snd.snd.snd + (1 : Int))), ()) ()) .d) .d) (.k (a, limit, deep, n_, i))) (.k (a, limit, deep, n_, i))) .d
def z1j (zo : List Term → Int → Int → Bool × Int) (x : List Term × Int × Int × Int × Int × Int × Unit) (y : Unit) : Wy (List Term × Int × Int × Int × Int × Int × Unit) (Unit) (List Term × Int × Int × Int × Int) := z06 zo x.1 x.2.1 x.2.2.1 x.2.2.2.1 x.2.2.2.2.1 x.2.2.2.2.2.1
def z1m (zo : List Term → Int → Int → Bool × Int) (n : Nat) (a : List Term) (limit : Int) (deep : Int) (n_ : Int) (i : Int) (k : Int) : Bool × (List Term × Int × Int × Int × Int) := iterW (z1j zo) default n (a, limit, deep, n_, i, k, ()) ()
def z86 (r : List Term × Int × Int × Int × Int) : LTree ty := .done (.exit 2) [.sl 42 r.1, .lit (.int .i64 r.2.1), .lit (.int .i64 r.2.2.1), .lit (.int .i64 r.2.2.2.1), .lit (.int .i64 r.2.2.2.2)] []
def zbbw : LL ty (List Term × Int × Int × Int × Int × Int × Unit) := llCons (lSl 42) (llCons (lInt .i64) (llCons (lInt .i64) (llCons (lInt .i64) (llCons (lInt .i64) (llCons (lInt .i64) llNil)))))
def zbby : BL ty (Unit) := bNil
def z1l (zo : List Term → Int → Int → Bool × Int) (a : List Term) (limit : Int) (deep : Int) (n_ : Int) (i : Int) : Wy (List Term × Int × Int × Int × Int × Unit) (Unit) (Int) := .i (decide (i < Int.ofNat a.length)) (.i (decide (n_ ≤ limit)) (.i (decide ((0 : Int) ≤ i) && decide (i < Int.ofNat a.length)) (.bn (z1m zo (a.length + limit.toNat + deep.toNat + (IntKind.i64.wrap (IntKind.i64.wrap (n_ + (1 : Int)) + Int.ofNat (a.getD i.toNat default).Factors.length)).toNat + i.toNat + Int.toNat (0 : Int) + (1 : Nat)) a limit deep (IntKind.i64.wrap (IntKind.i64.wrap (n_ + (1 : Int)) + Int.ofNat (a.getD i.toNat default).Factors.length)) i (0 : Int)) fun r8 => .h ((r8.fst), (r8.snd.fst), (r8.snd.snd.fst), (r8.snd.snd.snd.fst), (IntKind.i64.wrap (r8.snd.snd.snd.snd + (1 : Int))), ()) ()) .d) (.k n_)) (.k n_)
def z1f (zo : List Term → Int → Int → Bool × Int) (x : List Term × Int × Int × Int × Int × Unit) (y : Unit) : Wy (List Term × Int × Int × Int × Int × Unit) (Unit) (Int) := z1l zo x.1 x.2.1 x.2.2.1 x.2.2.2.1 x.2.2.2.2.1
def z1g (zo : List Term → Int → Int → Bool × Int) (n : Nat) (a : List Term) (limit : Int) (deep : Int) (n_ : Int) (i : Int) : Bool × Int := iterW (z1f zo) default n (a, limit, deep, n_, i, ()) ()
def z9y (r : Int) : LTree ty := .done (.exit 0) [.lit (.int .i64 r)] []
def zbb5 : LL ty (List Term × Int × Int × Int × Int × Unit) := llCons (lSl 42) (llCons (lInt .i64) (llCons (lInt .i64) (llCons (lInt .i64) (llCons (lInt .i64) llNil))))
def zbce : BL ty (Unit) := bNil
def zp8 (zo : List Term → Int → Int → Bool × Int) : Cx ty := mkCx base 136 [(52, (zuy zo))] [] [(5, [(0, .keep), (1, .keep), (2, .keep), (7, .keep), (8, .keep)]), (9, [(0, .keep), (1, .keep), (2, .keep), (7, .keep), (8, .keep), (9, .keep)]), (14, [(0, .keep), (1, .keep), (2, .keep), (7, .keep), (8, .keep), (9, .keep), (10, .keep), (11, .keep)]), (18, [(0, .keep), (1, .keep), (2, .keep), (7, .keep), (8, .keep), (9, .keep), (10, .keep), (12, .keep)])] [(5, 1, [(7, .keep)]), (9, 3, [(0, .keep), (1, .keep), (2, .keep), (7, .keep), (8, .keep)]), (14, 5, [(0, .keep), (1, .keep), (2, .keep), (7, .keep), (8, .keep), (9, .keep), (10, .keep)]), (18, 7, [(0, .keep), (1, .keep), (2, .keep), (7, .keep), (8, .keep), (9, .keep)])] [(14, spW z9x z98 (zyp zo) default z6t fun x y => ((x.1.length + Int.toNat x.2.1 + Int.toNat x.2.2.1 + Int.toNat x.2.2.2.1 + Int.toNat x.2.2.2.2.1 + Int.toNat x.2.2.2.2.2.1 + Int.toNat x.2.2.2.2.2.2.2.1 + 1) + y.1.Args.length + y.1.Items.length)), (18, spW zbai z8v (zzw zo) default z7c fun x y => ((x.1.length + Int.toNat x.2.1 + Int.toNat x.2.2.1 + Int.toNat x.2.2.2.1 + Int.toNat x.2.2.2.2.1 + Int.toNat x.2.2.2.2.2.1 + Int.toNat x.2.2.2.2.2.2.2.1 + 1) + y.1.Args.length + y.1.Items.length)), (9, spW zbbw zbby (z1j zo) default z86 fun x y => (x.1.length + Int.toNat x.2.1 + Int.toNat x.2.2.1 + Int.toNat x.2.2.2.1 + Int.toNat x.2.2.2.2.1 + Int.toNat x.2.2.2.2.2.1 + 1)), (5, spW zbb5 zbce (z1f zo) default z9y fun x y => (x.1.length + Int.toNat x.2.1 + Int.toNat x.2.2.1 + Int.toNat x.2.2.2.1 + Int.toNat x.2.2.2.2.1 + 1))] []
theorem zbkt (zo : List Term → Int → Int → Bool × Int) : LoopOK (zp8 zo) (lp (body Tryz.f52) 2) := loopOK_W (id := 14) (V := z9x) (B := z98) (W := zyp zo) (z := default) (tr := z6t) (m := fun x y => ((x.1.length + Int.toNat x.2.1 + Int.toNat x.2.2.1 + Int.toNat x.2.2.2.1 + Int.toNat x.2.2.2.2.1 + Int.toNat x.2.2.2.2.2.1 + Int.toNat x.2.2.2.2.2.2.2.1 + 1) + y.1.Args.length + y.1.Items.length)) (by kernel_rfl) (by kernel_rfl) fun R H K x y => by kernel_rfl
theorem zbk8 (zo : List Term → Int → Int → Bool × Int) : LoopOK (zp8 zo) (lp (body Tryz.f52) 3) := loopOK_W (id := 18) (V := zbai) (B := z8v) (W := zzw zo) (z := default) (tr := z7c) (m := fun x y => ((x.1.length + Int.toNat x.2.1 + Int.toNat x.2.2.1 + Int.toNat x.2.2.2.1 + Int.toNat x.2.2.2.2.1 + Int.toNat x.2.2.2.2.2.1 + Int.toNat x.2.2.2.2.2.2.2.1 + 1) + y.1.Args.length + y.1.Items.length)) (by kernel_rfl) (by kernel_rfl) fun R H K x y => by kernel_rfl
theorem zbl2 (zo : List Term → Int → Int → Bool × Int) : LoopOK (zp8 zo) (lp (body Tryz.f52) 1) := loopOK_W (id := 9) (V := zbbw) (B := zbby) (W := z1j zo) (z := default) (tr := z86) (m := fun x y => (x.1.length + Int.toNat x.2.1 + Int.toNat x.2.2.1 + Int.toNat x.2.2.2.1 + Int.toNat x.2.2.2.2.1 + Int.toNat x.2.2.2.2.2.1 + 1)) (by kernel_rfl) (by kernel_rfl) fun R H K x y => by kernel_rfl
theorem zbmh (zo : List Term → Int → Int → Bool × Int) : LoopOK (zp8 zo) (lp (body Tryz.f52) 0) := loopOK_W (id := 5) (V := zbb5) (B := zbce) (W := z1f zo) (z := default) (tr := z9y) (m := fun x y => (x.1.length + Int.toNat x.2.1 + Int.toNat x.2.2.1 + Int.toNat x.2.2.2.1 + Int.toNat x.2.2.2.2.1 + 1)) (by kernel_rfl) (by kernel_rfl) fun R H K x y => by kernel_rfl
def zwj (zo : List Term → Int → Int → Bool × Int) (a : List Term) (limit : Int) (deep : Int) : Wy0 (Int) := .i (deep == (0 : Int)) (.k (IntKind.i64.wrap (limit + (1 : Int)))) (.bn (z1g zo (a.length + limit.toNat + deep.toNat + Int.toNat (0 : Int) + Int.toNat (0 : Int) + (1 : Nat)) a limit deep (0 : Int) (0 : Int)) fun r10 => .k r10)
def zup (zo : List Term → Int → Int → Bool × Int) (a : List Term) (limit : Int) (deep : Int) : Bool × Int := (zwj zo a limit deep).fin default
theorem zbjd (zo : List Term → Int → Int → Bool × Int) (zbni : Sound Tryz.prog base 52 (zuy zo)) : Sound Tryz.prog base 52 (zuy (zup zo)) :=
  sound_W (cx' := (zp8 zo)) draws base_ok mkSame (mkSpecs ⟨(zbni), trivial⟩) Tryz.call52 Tryz.func52 (c := body Tryz.f52) (by kernel_rfl) (loopsOK_of (l := [lp (body Tryz.f52) 0, lp (body Tryz.f52) 1, lp (body Tryz.f52) 2, lp (body Tryz.f52) 3]) (by kernel_rfl) ⟨zbmh zo, zbl2 zo, zbkt zo, zbk8 zo, trivial⟩) (sg := ⟨[.pure], []⟩) (A := zbi1) (res := zbdt) (W := fun x => zwj zo x.1 x.2.1 x.2.2.1) (z := default) (fun x => by kernel_rfl) (fun _ => by kernel_rfl)
def zbm2 : Nat → (List Term → Int → Int → Bool × Int)
  | 0 => fun _ _ _ => (false, default)
  | n + 1 => zup (zbm2 n)
def zq5 (n : Nat) : List Term → Int → Int → Bool × Int := zbm2 n
theorem zbbu (n : Nat) : zq5 (n + 1) = zup (zq5 n) := rfl
theorem zbj1 : ∀ n, Sound Tryz.prog base 52 (zuy (zq5 n))
  | 0 => sound_false Tryz.call52 (fun _ => rfl)
  | n + 1 => by
    have ih := zbj1 n
    exact zbjd _ (ih)
def zbef : List Term → Int → Int → Bool × Int := zq5 1000
def zbb1 : Ab.Spec ty := zuy zbef
theorem zbls : Sound Tryz.prog base 52 zbb1 := (zbj1 1000)
def zbee (limit : Int) (l : List (List Term)) (i : Int) : Wy (Int × List (List Term) × Int × Unit) (Unit) (Bool ⊕ Unit) := .i (decide (i < Int.ofNat l.length)) (.i (decide ((0 : Int) ≤ i) && decide (i < Int.ofNat l.length)) (.bn (zbef (l.getD i.toNat default) limit (12 : Int)) fun r0 => .i (decide (r0 > limit)) (.k (.inl false)) (.h (limit, l, (IntKind.i64.wrap (i + (1 : Int))), ()) ())) .d) (.k (.inr ()))
def zbeq (x : Int × List (List Term) × Int × Unit) (y : Unit) : Wy (Int × List (List Term) × Int × Unit) (Unit) (Bool ⊕ Unit) := zbee x.1 x.2.1 x.2.2.1
def zbd8 (n : Nat) (limit : Int) (l : List (List Term)) (i : Int) : Bool × (Bool ⊕ Unit) := iterW (zbeq) (.inl default) n (limit, l, i, ()) ()
def zbki (r : Bool ⊕ Unit) : LTree ty := .ite (isL r) (.done .ret [.lit (.bool (getL r))] []) (.done (.exit 0) [] [])
def zbmc : LL ty (Int × List (List Term) × Int × Unit) := llCons (lInt .i64) (llCons (lSl 23) (llCons (lInt .i64) llNil))
def zbll : BL ty (Unit) := bNil
def zblu : Cx ty := mkCx base 20 [(52, zbb1)] [] [(2, [(0, .keep), (1, .keep), (5, .keep)])] [(2, 1, []), (2, 0, [(4, .keep)])] [(2, spW zbmc zbll (zbeq) (.inl default) zbki fun x y => (Int.toNat x.1 + x.2.1.length + Int.toNat x.2.2.1 + 1))] []
theorem zbp5 : LoopOK zblu (lp (body Tryz.f12) 0) := loopOK_W (id := 2) (V := zbmc) (B := zbll) (W := zbeq) (z := .inl default) (tr := zbki) (m := fun x y => (Int.toNat x.1 + x.2.1.length + Int.toNat x.2.2.1 + 1)) (by kernel_rfl) (by kernel_rfl) fun R H K x y => by kernel_rfl
def zbhd (limit : Int) (l : List (List Term)) : Wy0 (Bool) := .bn (zbd8 (limit.toNat + l.length + Int.toNat (0 : Int) + (1 : Nat)) limit l (0 : Int)) fun r2 => .i (isL r2) (.k (getL r2)) (.k true)
def z38 (limit : Int) (l : List (List Term)) : Bool × Bool := (zbhd limit l).fin default
def zbjz (r : Bool) : ARes ty := ⟨[.pure (.lit (.bool r))], []⟩
def zbm5 : AL base (Int × List (List Term) × Unit) := aCons (aPure (vInt .i64)) (aCons (aPure (vSl 23)) aNil)
def zbi2 : Ab.Spec ty := mkSpec zbm5 fun x => ((z38 x.1 x.2.1).1, zbjz (z38 x.1 x.2.1).2)
theorem zbob : Sound Tryz.prog base 12 zbi2 :=
  sound_W (cx' := zblu) draws base_ok mkSame (mkSpecs ⟨(zbls), trivial⟩) Tryz.call12 Tryz.func12 (c := body Tryz.f12) (by kernel_rfl) (loopsOK_of (l := [lp (body Tryz.f12) 0]) (by kernel_rfl) ⟨zbp5, trivial⟩) (sg := ⟨[.pure], []⟩) (A := zbm5) (res := zbjz) (W := fun x => zbhd x.1 x.2.1) (z := default) (fun x => by kernel_rfl) (fun _ => by kernel_rfl)
def zuu (l : List Weighted) (i : Int) (k : Int) (out_ : List Weighted) : Wy (List Weighted × Unit × Int × Int × Unit) (List Weighted × Unit) (List Weighted × Int × Int × List Weighted) := .i (decide (k < Int.ofNat out_.length)) (.i (decide ((0 : Int) ≤ k) && decide (k ≤ IntKind.i64.wrap (k + (1 : Int))) && decide (IntKind.i64.wrap (k + (1 : Int)) ≤ Int.ofNat out_.length)) (.i (decide ((0 : Int) ≤ i) && decide (i ≤ IntKind.i64.wrap (i + (1 : Int))) && decide (IntKind.i64.wrap (i + (1 : Int)) ≤ Int.ofNat l.length)) (.bn (zot (List.take ((IntKind.i64.wrap (k + (1 : Int))).toNat - k.toNat) (List.drop k.toNat out_)) (List.take ((IntKind.i64.wrap (i + (1 : Int))).toNat - i.toNat) (List.drop i.toNat l))) fun r0 => .i (decide (r0 ≤ (0 : Int))) (.h (l, (), i, (IntKind.i64.wrap (k + (1 : Int))), ()) (out_, ())) (.k (l, i, k, out_))) .d) .d) (.k (l, i, k, out_))
def zz3 (x : List Weighted × Unit × Int × Int × Unit) (y : List Weighted × Unit) : Wy (List Weighted × Unit × Int × Int × Unit) (List Weighted × Unit) (List Weighted × Int × Int × List Weighted) := zuu x.1 x.2.2.1 x.2.2.2.1 y.1
def zbhz (n : Nat) (l : List Weighted) (i : Int) (k : Int) (out_ : List Weighted) : Bool × (List Weighted × Int × Int × List Weighted) := iterW (zz3) default n (l, (), i, k, ()) (out_, ())
def zbf8 (r : List Weighted × Int × Int × List Weighted) : LTree ty := .done (.exit 2) [.sl 52 r.1, .own 224, .lit (.int .i64 r.2.1), .lit (.int .i64 r.2.2.1)] [.arr 52 r.2.2.2 false]
def zbhx : LL ty (List Weighted × Unit × Int × Int × Unit) := llCons (lSl 52) (llCons (lOwn 224) (llCons (lInt .i64) (llCons (lInt .i64) llNil)))
def zbis : BL ty (List Weighted × Unit) := bArr 52 false (bNil)
def zun (l : List Weighted) (i : Int) (out_ : List Weighted) : Wy (List Weighted × Unit × Int × Unit) (List Weighted × Unit) (List Weighted) := .i (decide (i < Int.ofNat l.length)) (.i (decide ((0 : Int) ≤ i) && decide (i < Int.ofNat l.length)) (.i (Int.ofNat (l.getD i.toNat default).Ann.length == (0 : Int)) (.h (l, (), (IntKind.i64.wrap (i + (1 : Int))), ()) (out_, ())) (.bn (zbhz (l.length + i.toNat + Int.toNat (0 : Int) + out_.length + (1 : Nat)) l i (0 : Int) out_) fun r2 => .i (decide ((0 : Int) ≤ (0 : Int)) && decide ((0 : Int) ≤ r2.snd.snd.fst) && decide (r2.snd.snd.fst ≤ Int.ofNat r2.snd.snd.snd.length)) (.i (decide (((0 : Nat) + (List.take (r2.snd.snd.fst.toNat - Int.toNat (0 : Int)) (List.drop (Int.toNat (0 : Int)) r2.snd.snd.snd)).length) * (56 : Nat) ≤ reach)) (.i (decide ((0 : Int) ≤ r2.snd.fst) && decide (r2.snd.fst < Int.ofNat r2.fst.length)) (.i (decide ((([] ++ List.take (r2.snd.snd.fst.toNat - Int.toNat (0 : Int)) (List.drop (Int.toNat (0 : Int)) r2.snd.snd.snd)).length + [r2.fst.getD r2.snd.fst.toNat default].length) * (56 : Nat) ≤ reach)) (.i (decide ((0 : Int) ≤ r2.snd.snd.fst) && decide (r2.snd.snd.fst ≤ Int.ofNat r2.snd.snd.snd.length) && decide (Int.ofNat r2.snd.snd.snd.length ≤ Int.ofNat r2.snd.snd.snd.length)) (.i (decide ((([] ++ List.take (r2.snd.snd.fst.toNat - Int.toNat (0 : Int)) (List.drop (Int.toNat (0 : Int)) r2.snd.snd.snd) ++ [r2.fst.getD r2.snd.fst.toNat default]).length + (List.take ((Int.ofNat r2.snd.snd.snd.length).toNat - r2.snd.snd.fst.toNat) (List.drop r2.snd.snd.fst.toNat r2.snd.snd.snd)).length) * (56 : Nat) ≤ reach)) (.h ((r2.fst), (), (IntKind.i64.wrap (r2.snd.fst + (1 : Int))), ()) (([] ++ List.take (r2.snd.snd.fst.toNat - Int.toNat (0 : Int)) (List.drop (Int.toNat (0 : Int)) r2.snd.snd.snd) ++ [r2.fst.getD r2.snd.fst.toNat default] ++ List.take ((Int.ofNat r2.snd.snd.snd.length).toNat - r2.snd.snd.fst.toNat) (List.drop r2.snd.snd.fst.toNat r2.snd.snd.snd)), ())) .d) .d) .d) .d) .d) .d)) .d) (.k out_)
def zz8 (x : List Weighted × Unit × Int × Unit) (y : List Weighted × Unit) : Wy (List Weighted × Unit × Int × Unit) (List Weighted × Unit) (List Weighted) := zun x.1 x.2.2.1 y.1
def zbhm (n : Nat) (l : List Weighted) (i : Int) (out_ : List Weighted) : Bool × List Weighted := iterW (zz8) default n (l, (), i, ()) (out_, ())
def zbf1 (r : List Weighted) : LTree ty := .done (.exit 0) [.own 224] [.arr 52 r false]
def zbhu : LL ty (List Weighted × Unit × Int × Unit) := llCons (lSl 52) (llCons (lOwn 224) (llCons (lInt .i64) llNil))
def zbin : BL ty (List Weighted × Unit) := bArr 52 false (bNil)
def z8l : Cx ty := mkCx base 56 [(35, zni)] [] [(3, [(0, .keep), (3, .keep), (4, .keep)]), (7, [(0, .keep), (3, .keep), (4, .keep), (5, .keep)])] [(3, 1, [(3, .keep)]), (7, 3, [(0, .keep), (3, .keep), (4, .keep), (5, .keep)])] [(7, spW zbhx zbis (zz3) default zbf8 fun x y => (x.1.length + Int.toNat x.2.2.1 + Int.toNat x.2.2.2.1 + y.1.length + 1)), (3, spW zbhu zbin (zz8) default zbf1 fun x y => (x.1.length + Int.toNat x.2.2.1 + y.1.length + 1))] []
theorem zbn3 : LoopOK z8l (lp (body Tryz.f37) 1) := loopOK_W (id := 7) (V := zbhx) (B := zbis) (W := zz3) (z := default) (tr := zbf8) (m := fun x y => (x.1.length + Int.toNat x.2.2.1 + Int.toNat x.2.2.2.1 + y.1.length + 1)) (by kernel_rfl) (by kernel_rfl) fun R H K x y => by kernel_rfl
theorem zboq : LoopOK z8l (lp (body Tryz.f37) 0) := loopOK_W (id := 3) (V := zbhu) (B := zbin) (W := zz8) (z := default) (tr := zbf1) (m := fun x y => (x.1.length + Int.toNat x.2.2.1 + y.1.length + 1)) (by kernel_rfl) (by kernel_rfl) fun R H K x y => by kernel_rfl
def zbax (l : List Weighted) : Wy0 (List Weighted) := .bn (zbhm (l.length + Int.toNat (0 : Int) + (0 : Nat) + (1 : Nat)) l (0 : Int) []) fun r4 => .k r4
def zxi (l : List Weighted) : Bool × List Weighted := (zbax l).fin default
def zbgf (r : List Weighted) : ARes ty := ⟨[.own 52 r], []⟩
def zbjy : AL base (List Weighted × Unit) := aCons (aPure (vSl 52)) aNil
def z27 : Ab.Spec ty := mkSpec zbjy fun x => ((zxi x.1).1, zbgf (zxi x.1).2)
theorem zbb6 : Sound Tryz.prog base 37 z27 :=
  sound_W (cx' := z8l) draws base_ok mkSame (mkSpecs ⟨(zr1), trivial⟩) Tryz.call37 Tryz.func37 (c := body Tryz.f37) (by kernel_rfl) (loopsOK_of (l := [lp (body Tryz.f37) 0, lp (body Tryz.f37) 1]) (by kernel_rfl) ⟨zboq, zbn3, trivial⟩) (sg := ⟨[.own 52], []⟩) (A := zbjy) (res := zbgf) (W := fun x => zbax x.1) (z := default) (fun x => by kernel_rfl) (fun _ => by kernel_rfl)
end Go.Proofs.YtnolcogncjijpaaGreatDoor
/- What lies inside lists of terms and factors: fuel for loops. -/
namespace Go.Proofs.YtnolcogncjijpaaGreatDoor
def szFs : List Factor → Nat
  | [] => 0
  | f :: r => f.Exp.toNat + f.Atom.Args.length + f.Atom.Items.length + 1 + szFs r
def szTs : List Term → Nat
  | [] => 0
  | t :: r => szFs t.Factors + 1 + szTs r
def zbf3 (r : Bool) : ARes ty := ⟨[.pure (.lit (.bool r))], []⟩
def zbkl : AL base (List Term × Unit) := aCons (aPure (vSl 42)) aNil
def zwn (F : List Term → Bool × Bool) : Ab.Spec ty := mkSpec zbkl fun x => ((F x.1).1, zbf3 (F x.1).2)
def z7e (r : Bool) : ARes ty := ⟨[.pure (.lit (.bool r))], []⟩
def zbb0 : AL base (Atom × Unit) := aCons (aPure (vAgg 48)) aNil
def zqd (F : Atom → Bool × Bool) : Ab.Spec ty := mkSpec zbb0 fun x => ((F x.1).1, z7e (F x.1).2)
def zbcp (r : Int) : ARes ty := ⟨[.pure (.lit (.int .i64 r))], []⟩
def zbgl : AL base (List Term × Unit) := aCons (aPure (vSl 42)) aNil
def zs2 (F : List Term → Bool × Int) : Ab.Spec ty := mkSpec zbgl fun x => ((F x.1).1, zbcp (F x.1).2)
def znk (zk : List Term → Bool × Int) (a : List Term) (most : Int) (i : Int) (k : Int) (n_ : Int) (j : Int) (x_ : Atom) : Wy (List Term × Int × Int × Int × Unit × Int × Int × Unit) (Atom × Unit) (List Term × Int × Int × Int × Int × Atom) := .i (decide (j < Int.ofNat x_.Args.length)) (.i (decide ((0 : Int) ≤ j) && decide (j < Int.ofNat x_.Args.length)) (.bn (zk (x_.Args.getD j.toNat default)) fun r0 => .h (a, most, i, k, (), (if IntKind.i64.wrap ((1 : Int) + r0) > n_ then IntKind.i64.wrap ((1 : Int) + r0) else n_), (IntKind.i64.wrap (j + (1 : Int))), ()) (x_, ())) .d) (.k (a, most, i, k, n_, x_))
def zr3 (zk : List Term → Bool × Int) (x : List Term × Int × Int × Int × Unit × Int × Int × Unit) (y : Atom × Unit) : Wy (List Term × Int × Int × Int × Unit × Int × Int × Unit) (Atom × Unit) (List Term × Int × Int × Int × Int × Atom) := znk zk x.1 x.2.1 x.2.2.1 x.2.2.2.1 x.2.2.2.2.2.1 x.2.2.2.2.2.2.1 y.1
def zxm (zk : List Term → Bool × Int) (n : Nat) (a : List Term) (most : Int) (i : Int) (k : Int) (n_ : Int) (j : Int) (x_ : Atom) : Bool × (List Term × Int × Int × Int × Int × Atom) := iterW (zr3 zk) default n (a, most, i, k, (), n_, j, ()) (x_, ())
def z4k (r : List Term × Int × Int × Int × Int × Atom) : LTree ty := .done (.exit 4) [.sl 42 r.1, .lit (.int .i64 r.2.1), .lit (.int .i64 r.2.2.1), .lit (.int .i64 r.2.2.2.1), .ptr 300 0, .lit (.int .i64 r.2.2.2.2.1)] [.box (base.enc 48 r.2.2.2.2.2) false]
def z7j : LL ty (List Term × Int × Int × Int × Unit × Int × Int × Unit) := llCons (lSl 42) (llCons (lInt .i64) (llCons (lInt .i64) (llCons (lInt .i64) (llCons (lPtrC 300 0) (llCons (lInt .i64) (llCons (lInt .i64) llNil))))))
def z7l : BL ty (Atom × Unit) := bBox (llMap (fun x => (⟨x.1, ⟨x.2.1, x.2.2.1⟩, x.2.2.2.1, x.2.2.2.2.1, x.2.2.2.2.2.1, x.2.2.2.2.2.2.1, ⟨x.2.2.2.2.2.2.2.1, x.2.2.2.2.2.2.2.2.1, x.2.2.2.2.2.2.2.2.2.1⟩⟩ : Atom)) (fun x => (x.Kind, x.Row.Table, x.Row.Seq, x.Args, x.Func, x.Items, x.Op, x.Bound.Kind, x.Bound.Int, x.Bound.Text, ())) (fun _ => rfl) (llCons (lInt .i64) (llCons (lInt .i64) (llCons (lInt .i64) (llCons (lSl 23) (llCons (lInt .i64) (llCons (lSl 52) (llCons (lInt .i64) (llCons (lInt .i64) (llCons (lInt .i64) (llCons lStr llNil))))))))))) false (bNil)
def znt (zk : List Term → Bool × Int) (a : List Term) (most : Int) (i : Int) (k : Int) (n_ : Int) (j : Int) (x_ : Atom) : Wy (List Term × Int × Int × Int × Unit × Int × Int × Unit) (Atom × Unit) (List Term × Int × Int × Int × Int) := .i (decide (j < Int.ofNat x_.Items.length)) (.i (decide ((0 : Int) ≤ j) && decide (j < Int.ofNat x_.Items.length)) (.bn (zk (x_.Items.getD j.toNat default).Ann) fun r2 => .h (a, most, i, k, (), (if IntKind.i64.wrap ((1 : Int) + r2) > n_ then IntKind.i64.wrap ((1 : Int) + r2) else n_), (IntKind.i64.wrap (j + (1 : Int))), ()) (x_, ())) .d) (.k (a, most, i, k, n_))
def zr2 (zk : List Term → Bool × Int) (x : List Term × Int × Int × Int × Unit × Int × Int × Unit) (y : Atom × Unit) : Wy (List Term × Int × Int × Int × Unit × Int × Int × Unit) (Atom × Unit) (List Term × Int × Int × Int × Int) := znt zk x.1 x.2.1 x.2.2.1 x.2.2.2.1 x.2.2.2.2.2.1 x.2.2.2.2.2.2.1 y.1
def z6p (zk : List Term → Bool × Int) (n : Nat) (a : List Term) (most : Int) (i : Int) (k : Int) (n_ : Int) (j : Int) (x_ : Atom) : Bool × (List Term × Int × Int × Int × Int) := iterW (zr2 zk) default n (a, most, i, k, (), n_, j, ()) (x_, ())
def z5u (r : List Term × Int × Int × Int × Int) : LTree ty := .done (.exit 6) [.sl 42 r.1, .lit (.int .i64 r.2.1), .lit (.int .i64 r.2.2.1), .lit (.int .i64 r.2.2.2.1), .lit (.int .i64 r.2.2.2.2)] []
def z7p : LL ty (List Term × Int × Int × Int × Unit × Int × Int × Unit) := llCons (lSl 42) (llCons (lInt .i64) (llCons (lInt .i64) (llCons (lInt .i64) (llCons (lPtrC 300 0) (llCons (lInt .i64) (llCons (lInt .i64) llNil))))))
def z6z : BL ty (Atom × Unit) := bBox (llMap (fun x => (⟨x.1, ⟨x.2.1, x.2.2.1⟩, x.2.2.2.1, x.2.2.2.2.1, x.2.2.2.2.2.1, x.2.2.2.2.2.2.1, ⟨x.2.2.2.2.2.2.2.1, x.2.2.2.2.2.2.2.2.1, x.2.2.2.2.2.2.2.2.2.1⟩⟩ : Atom)) (fun x => (x.Kind, x.Row.Table, x.Row.Seq, x.Args, x.Func, x.Items, x.Op, x.Bound.Kind, x.Bound.Int, x.Bound.Text, ())) (fun _ => rfl) (llCons (lInt .i64) (llCons (lInt .i64) (llCons (lInt .i64) (llCons (lSl 23) (llCons (lInt .i64) (llCons (lSl 52) (llCons (lInt .i64) (llCons (lInt .i64) (llCons (lInt .i64) (llCons lStr llNil))))))))))) false (bNil)
def zo5 (zk : List Term → Bool × Int) (a : List Term) (most : Int) (i : Int) (k : Int) : Wy (List Term × Int × Int × Int × Unit) (Unit) (List Term × Int × Int) := .i (decide ((0 : Int) ≤ i) && decide (i < Int.ofNat a.length)) (.i (decide (k < Int.ofNat (a.getD i.toNat default).Factors.length)) (.i (decide ((0 : Int) ≤ i) && decide (i < Int.ofNat a.length)) (.i (decide ((0 : Int) ≤ k) && decide (k < Int.ofNat (a.getD i.toNat default).Factors.length)) (.i (((a.getD i.toNat default).Factors.getD k.toNat default).Atom.Kind == (0 : Int)) (.h (a, most, i, (IntKind.i64.wrap (k + (1 : Int))), ()) ()) (.bn (zxm zk (((a.length + most.toNat + i.toNat + k.toNat + Int.toNat (1 : Int) + Int.toNat (0 : Int) + (1 : Nat)) + (Atom.mk ((a.getD i.toNat default).Factors.getD k.toNat default).Atom.Kind ((a.getD i.toNat default).Factors.getD k.toNat default).Atom.Row ((a.getD i.toNat default).Factors.getD k.toNat default).Atom.Args ((a.getD i.toNat default).Factors.getD k.toNat default).Atom.Func ((a.getD i.toNat default).Factors.getD k.toNat default).Atom.Items ((a.getD i.toNat default).Factors.getD k.toNat default).Atom.Op ((a.getD i.toNat default).Factors.getD k.toNat default).Atom.Bound).Args.length + (Atom.mk ((a.getD i.toNat default).Factors.getD k.toNat default).Atom.Kind ((a.getD i.toNat default).Factors.getD k.toNat default).Atom.Row ((a.getD i.toNat default).Factors.getD k.toNat default).Atom.Args ((a.getD i.toNat default).Factors.getD k.toNat default).Atom.Func ((a.getD i.toNat default).Factors.getD k.toNat default).Atom.Items ((a.getD i.toNat default).Factors.getD k.toNat default).Atom.Op ((a.getD i.toNat default).Factors.getD k.toNat default).Atom.Bound).Items.length) + szTs a) a most i k (1 : Int) (0 : Int) (Atom.mk ((a.getD i.toNat default).Factors.getD k.toNat default).Atom.Kind ((a.getD i.toNat default).Factors.getD k.toNat default).Atom.Row ((a.getD i.toNat default).Factors.getD k.toNat default).Atom.Args ((a.getD i.toNat default).Factors.getD k.toNat default).Atom.Func ((a.getD i.toNat default).Factors.getD k.toNat default).Atom.Items ((a.getD i.toNat default).Factors.getD k.toNat default).Atom.Op ((a.getD i.toNat default).Factors.getD k.toNat default).Atom.Bound)) fun r5 => .bn (z6p zk (((r5.fst.length + r5.snd.fst.toNat + r5.snd.snd.fst.toNat + r5.snd.snd.snd.fst.toNat + r5.snd.snd.snd.snd.fst.toNat + Int.toNat (0 : Int) + (1 : Nat)) + (Atom.mk r5.snd.snd.snd.snd.snd.Kind r5.snd.snd.snd.snd.snd.Row r5.snd.snd.snd.snd.snd.Args r5.snd.snd.snd.snd.snd.Func r5.snd.snd.snd.snd.snd.Items r5.snd.snd.snd.snd.snd.Op r5.snd.snd.snd.snd.snd.Bound).Args.length + (Atom.mk r5.snd.snd.snd.snd.snd.Kind r5.snd.snd.snd.snd.snd.Row r5.snd.snd.snd.snd.snd.Args r5.snd.snd.snd.snd.snd.Func r5.snd.snd.snd.snd.snd.Items r5.snd.snd.snd.snd.snd.Op r5.snd.snd.snd.snd.snd.Bound).Items.length) + szTs r5.fst) r5.fst r5.snd.fst r5.snd.snd.fst r5.snd.snd.snd.fst r5.snd.snd.snd.snd.fst (0 : Int) (Atom.mk r5.snd.snd.snd.snd.snd.Kind r5.snd.snd.snd.snd.snd.Row r5.snd.snd.snd.snd.snd.Args r5.snd.snd.snd.snd.snd.Func r5.snd.snd.snd.snd.snd.Items r5.snd.snd.snd.snd.snd.Op r5.snd.snd.snd.snd.snd.Bound)) fun r4 => .h ((r4.fst), (if r4.snd.snd.snd.snd > r4.snd.fst then r4.snd.snd.snd.snd else r4.snd.fst), (r4.snd.snd.fst), (IntKind.i64.wrap (r4.snd.snd.snd.fst + (1 : Int))), ()) ())) .d) .d) (.k (a, most, i))) .d
def zs8 (zk : List Term → Bool × Int) (x : List Term × Int × Int × Int × Unit) (y : Unit) : Wy (List Term × Int × Int × Int × Unit) (Unit) (List Term × Int × Int) := zo5 zk x.1 x.2.1 x.2.2.1 x.2.2.2.1
def zbaa (zk : List Term → Bool × Int) (n : Nat) (a : List Term) (most : Int) (i : Int) (k : Int) : Bool × (List Term × Int × Int) := iterW (zs8 zk) default n (a, most, i, k, ()) ()
def z7f (r : List Term × Int × Int) : LTree ty := .done (.exit 2) [.sl 42 r.1, .lit (.int .i64 r.2.1), .lit (.int .i64 r.2.2)] []
def z9l : LL ty (List Term × Int × Int × Int × Unit) := llCons (lSl 42) (llCons (lInt .i64) (llCons (lInt .i64) (llCons (lInt .i64) llNil)))
def z91 : BL ty (Unit) := bNil
def zox (zk : List Term → Bool × Int) (a : List Term) (most : Int) (i : Int) : Wy (List Term × Int × Int × Unit) (Unit) (Int) := .i (decide (i < Int.ofNat a.length)) (.bn (zbaa zk ((a.length + most.toNat + i.toNat + Int.toNat (0 : Int) + (1 : Nat)) + szTs a) a most i (0 : Int)) fun r8 => .h ((r8.fst), (r8.snd.fst), (IntKind.i64.wrap (r8.snd.snd + (1 : Int))), ()) ()) (.k most)
def zs4 (zk : List Term → Bool × Int) (x : List Term × Int × Int × Unit) (y : Unit) : Wy (List Term × Int × Int × Unit) (Unit) (Int) := zox zk x.1 x.2.1 x.2.2.1
def z9i (zk : List Term → Bool × Int) (n : Nat) (a : List Term) (most : Int) (i : Int) : Bool × Int := iterW (zs4 zk) default n (a, most, i, ()) ()
def z7a (r : Int) : LTree ty := .done (.exit 0) [.lit (.int .i64 r)] []
def z9f : LL ty (List Term × Int × Int × Unit) := llCons (lSl 42) (llCons (lInt .i64) (llCons (lInt .i64) llNil))
def z8u : BL ty (Unit) := bNil
def zo0 (zk : List Term → Bool × Int) : Cx ty := mkCx base 75 [(147, (zs2 zk))] [] [(3, [(0, .keep), (3, .keep), (4, .keep)]), (6, [(0, .keep), (3, .keep), (4, .keep), (5, .keep)]), (12, [(0, .keep), (3, .keep), (4, .keep), (5, .keep), (6, .keep), (7, .keep), (8, .keep)]), (16, [(0, .keep), (3, .keep), (4, .keep), (5, .keep), (6, .keep), (7, .keep), (9, .keep)])] [(3, 1, [(3, .keep)]), (6, 3, [(0, .keep), (3, .keep), (4, .keep)]), (12, 5, [(0, .keep), (3, .keep), (4, .keep), (5, .keep), (6, .keep), (7, .keep)]), (16, 7, [(0, .keep), (3, .keep), (4, .keep), (5, .keep), (7, .keep)])] [(12, spW z7j z7l (zr3 zk) default z4k fun x y => (((x.1.length + Int.toNat x.2.1 + Int.toNat x.2.2.1 + Int.toNat x.2.2.2.1 + Int.toNat x.2.2.2.2.2.1 + Int.toNat x.2.2.2.2.2.2.1 + 1) + y.1.Args.length + y.1.Items.length) + szTs x.1)), (16, spW z7p z6z (zr2 zk) default z5u fun x y => (((x.1.length + Int.toNat x.2.1 + Int.toNat x.2.2.1 + Int.toNat x.2.2.2.1 + Int.toNat x.2.2.2.2.2.1 + Int.toNat x.2.2.2.2.2.2.1 + 1) + y.1.Args.length + y.1.Items.length) + szTs x.1)), (6, spW z9l z91 (zs8 zk) default z7f fun x y => ((x.1.length + Int.toNat x.2.1 + Int.toNat x.2.2.1 + Int.toNat x.2.2.2.1 + 1) + szTs x.1)), (3, spW z9f z8u (zs4 zk) default z7a fun x y => ((x.1.length + Int.toNat x.2.1 + Int.toNat x.2.2.1 + 1) + szTs x.1))] []
theorem zbi5 (zk : List Term → Bool × Int) : LoopOK (zo0 zk) (lp (body Tryz.f147) 2) := loopOK_W (id := 12) (V := z7j) (B := z7l) (W := zr3 zk) (z := default) (tr := z4k) (m := fun x y => (((x.1.length + Int.toNat x.2.1 + Int.toNat x.2.2.1 + Int.toNat x.2.2.2.1 + Int.toNat x.2.2.2.2.2.1 + Int.toNat x.2.2.2.2.2.2.1 + 1) + y.1.Args.length + y.1.Items.length) + szTs x.1)) (by kernel_rfl) (by kernel_rfl) fun R H K x y => by kernel_rfl
theorem zbje (zk : List Term → Bool × Int) : LoopOK (zo0 zk) (lp (body Tryz.f147) 3) := loopOK_W (id := 16) (V := z7p) (B := z6z) (W := zr2 zk) (z := default) (tr := z5u) (m := fun x y => (((x.1.length + Int.toNat x.2.1 + Int.toNat x.2.2.1 + Int.toNat x.2.2.2.1 + Int.toNat x.2.2.2.2.2.1 + Int.toNat x.2.2.2.2.2.2.1 + 1) + y.1.Args.length + y.1.Items.length) + szTs x.1)) (by kernel_rfl) (by kernel_rfl) fun R H K x y => by kernel_rfl
theorem zblb (zk : List Term → Bool × Int) : LoopOK (zo0 zk) (lp (body Tryz.f147) 1) := loopOK_W (id := 6) (V := z9l) (B := z91) (W := zs8 zk) (z := default) (tr := z7f) (m := fun x y => ((x.1.length + Int.toNat x.2.1 + Int.toNat x.2.2.1 + Int.toNat x.2.2.2.1 + 1) + szTs x.1)) (by kernel_rfl) (by kernel_rfl) fun R H K x y => by kernel_rfl
theorem zbkr (zk : List Term → Bool × Int) : LoopOK (zo0 zk) (lp (body Tryz.f147) 0) := loopOK_W (id := 3) (V := z9f) (B := z8u) (W := zs4 zk) (z := default) (tr := z7a) (m := fun x y => ((x.1.length + Int.toNat x.2.1 + Int.toNat x.2.2.1 + 1) + szTs x.1)) (by kernel_rfl) (by kernel_rfl) fun R H K x y => by kernel_rfl
def z1o (zk : List Term → Bool × Int) (a : List Term) : Wy0 (Int) := .bn (z9i zk ((a.length + Int.toNat (0 : Int) + Int.toNat (0 : Int) + (1 : Nat)) + szTs a) a (0 : Int) (0 : Int)) fun r10 => .k r10
def zx0 (zk : List Term → Bool × Int) (a : List Term) : Bool × Int := (z1o zk a).fin default
theorem zbht (zk : List Term → Bool × Int) (zbmr : Sound Tryz.prog base 147 (zs2 zk)) : Sound Tryz.prog base 147 (zs2 (zx0 zk)) :=
  sound_W (cx' := (zo0 zk)) draws base_ok mkSame (mkSpecs ⟨(zbmr), trivial⟩) Tryz.call147 Tryz.func147 (c := body Tryz.f147) (by kernel_rfl) (loopsOK_of (l := [lp (body Tryz.f147) 0, lp (body Tryz.f147) 1, lp (body Tryz.f147) 2, lp (body Tryz.f147) 3]) (by kernel_rfl) ⟨zbkr zk, zblb zk, zbi5 zk, zbje zk, trivial⟩) (sg := ⟨[.pure], []⟩) (A := zbgl) (res := zbcp) (W := fun x => z1o zk x.1) (z := default) (fun x => by kernel_rfl) (fun _ => by kernel_rfl)
def zbme : Nat → (List Term → Bool × Int)
  | 0 => fun _ => (false, default)
  | n + 1 => zx0 (zbme n)
def zmj (n : Nat) : List Term → Bool × Int := zbme n
theorem zbl7 (n : Nat) : zmj (n + 1) = zx0 (zmj n) := rfl
theorem zbit : ∀ n, Sound Tryz.prog base 147 (zs2 (zmj n))
  | 0 => sound_false Tryz.call147 (fun _ => rfl)
  | n + 1 => by
    have ih := zbit n
    exact zbht _ (ih)
def zba8 : List Term → Bool × Int := zmj 1000
def z9z : Ab.Spec ty := zs2 zba8
theorem zbkx : Sound Tryz.prog base 147 z9z := (zbit 1000)
def zbij (r : Int) : ARes ty := ⟨[.pure (.lit (.int .i64 r))], []⟩
def zbli : AL base (List Term × Unit) := aCons (aPure (vSl 42)) aNil
def zy5 (F : List Term → Bool × Int) : Ab.Spec ty := mkSpec zbli fun x => ((F x.1).1, zbij (F x.1).2)
def zrp (zw : List Term → Bool × Int) (a : List Term) (n_ : Int) (i : Int) (k : Int) (j : Int) (x_ : Atom) : Wy (List Term × Int × Int × Int × Unit × Int × Unit) (Atom × Unit) (List Term × Int × Int × Int × Atom) := .i (decide (j < Int.ofNat x_.Args.length)) (.i (decide ((0 : Int) ≤ j) && decide (j < Int.ofNat x_.Args.length)) (.bn (zw (x_.Args.getD j.toNat default)) fun r0 => .h (a, (IntKind.i64.wrap (n_ + r0)), i, k, (), (IntKind.i64.wrap (j + (1 : Int))), ()) (x_, ())) .d) (.k (a, n_, i, k, x_))
def zwd (zw : List Term → Bool × Int) (x : List Term × Int × Int × Int × Unit × Int × Unit) (y : Atom × Unit) : Wy (List Term × Int × Int × Int × Unit × Int × Unit) (Atom × Unit) (List Term × Int × Int × Int × Atom) := zrp zw x.1 x.2.1 x.2.2.1 x.2.2.2.1 x.2.2.2.2.2.1 y.1
def zbdo (zw : List Term → Bool × Int) (n : Nat) (a : List Term) (n_ : Int) (i : Int) (k : Int) (j : Int) (x_ : Atom) : Bool × (List Term × Int × Int × Int × Atom) := iterW (zwd zw) default n (a, n_, i, k, (), j, ()) (x_, ())
def zbco (r : List Term × Int × Int × Int × Atom) : LTree ty := .done (.exit 4) [.sl 42 r.1, .lit (.int .i64 r.2.1), .lit (.int .i64 r.2.2.1), .lit (.int .i64 r.2.2.2.1), .ptr 284 0] [.box (base.enc 48 r.2.2.2.2) false]
def zbe2 : LL ty (List Term × Int × Int × Int × Unit × Int × Unit) := llCons (lSl 42) (llCons (lInt .i64) (llCons (lInt .i64) (llCons (lInt .i64) (llCons (lPtrC 284 0) (llCons (lInt .i64) llNil)))))
def zbeu : BL ty (Atom × Unit) := bBox (llMap (fun x => (⟨x.1, ⟨x.2.1, x.2.2.1⟩, x.2.2.2.1, x.2.2.2.2.1, x.2.2.2.2.2.1, x.2.2.2.2.2.2.1, ⟨x.2.2.2.2.2.2.2.1, x.2.2.2.2.2.2.2.2.1, x.2.2.2.2.2.2.2.2.2.1⟩⟩ : Atom)) (fun x => (x.Kind, x.Row.Table, x.Row.Seq, x.Args, x.Func, x.Items, x.Op, x.Bound.Kind, x.Bound.Int, x.Bound.Text, ())) (fun _ => rfl) (llCons (lInt .i64) (llCons (lInt .i64) (llCons (lInt .i64) (llCons (lSl 23) (llCons (lInt .i64) (llCons (lSl 52) (llCons (lInt .i64) (llCons (lInt .i64) (llCons (lInt .i64) (llCons lStr llNil))))))))))) false (bNil)
def zrh (zw : List Term → Bool × Int) (a : List Term) (n_ : Int) (i : Int) (k : Int) (j : Int) (x_ : Atom) : Wy (List Term × Int × Int × Int × Unit × Int × Unit) (Atom × Unit) (List Term × Int × Int × Int) := .i (decide (j < Int.ofNat x_.Items.length)) (.i (decide ((0 : Int) ≤ j) && decide (j < Int.ofNat x_.Items.length)) (.bn (zw (x_.Items.getD j.toNat default).Ann) fun r2 => .h (a, (IntKind.i64.wrap (IntKind.i64.wrap (n_ + (1 : Int)) + r2)), i, k, (), (IntKind.i64.wrap (j + (1 : Int))), ()) (x_, ())) .d) (.k (a, n_, i, k))
def zvy (zw : List Term → Bool × Int) (x : List Term × Int × Int × Int × Unit × Int × Unit) (y : Atom × Unit) : Wy (List Term × Int × Int × Int × Unit × Int × Unit) (Atom × Unit) (List Term × Int × Int × Int) := zrh zw x.1 x.2.1 x.2.2.1 x.2.2.2.1 x.2.2.2.2.2.1 y.1
def zbd9 (zw : List Term → Bool × Int) (n : Nat) (a : List Term) (n_ : Int) (i : Int) (k : Int) (j : Int) (x_ : Atom) : Bool × (List Term × Int × Int × Int) := iterW (zvy zw) default n (a, n_, i, k, (), j, ()) (x_, ())
def zbcl (r : List Term × Int × Int × Int) : LTree ty := .done (.exit 6) [.sl 42 r.1, .lit (.int .i64 r.2.1), .lit (.int .i64 r.2.2.1), .lit (.int .i64 r.2.2.2)] []
def zbds : LL ty (List Term × Int × Int × Int × Unit × Int × Unit) := llCons (lSl 42) (llCons (lInt .i64) (llCons (lInt .i64) (llCons (lInt .i64) (llCons (lPtrC 284 0) (llCons (lInt .i64) llNil)))))
def zbe3 : BL ty (Atom × Unit) := bBox (llMap (fun x => (⟨x.1, ⟨x.2.1, x.2.2.1⟩, x.2.2.2.1, x.2.2.2.2.1, x.2.2.2.2.2.1, x.2.2.2.2.2.2.1, ⟨x.2.2.2.2.2.2.2.1, x.2.2.2.2.2.2.2.2.1, x.2.2.2.2.2.2.2.2.2.1⟩⟩ : Atom)) (fun x => (x.Kind, x.Row.Table, x.Row.Seq, x.Args, x.Func, x.Items, x.Op, x.Bound.Kind, x.Bound.Int, x.Bound.Text, ())) (fun _ => rfl) (llCons (lInt .i64) (llCons (lInt .i64) (llCons (lInt .i64) (llCons (lSl 23) (llCons (lInt .i64) (llCons (lSl 52) (llCons (lInt .i64) (llCons (lInt .i64) (llCons (lInt .i64) (llCons lStr llNil))))))))))) false (bNil)
def zs9 (zw : List Term → Bool × Int) (a : List Term) (n_ : Int) (i : Int) (k : Int) : Wy (List Term × Int × Int × Int × Unit) (Unit) (List Term × Int × Int) := .i (decide ((0 : Int) ≤ i) && decide (i < Int.ofNat a.length)) (.i (decide (k < Int.ofNat (a.getD i.toNat default).Factors.length)) (.i (decide ((0 : Int) ≤ i) && decide (i < Int.ofNat a.length)) (.i (decide ((0 : Int) ≤ k) && decide (k < Int.ofNat (a.getD i.toNat default).Factors.length)) (.bn (zbdo zw (((a.length + (IntKind.i64.wrap (n_ + (1 : Int))).toNat + i.toNat + k.toNat + Int.toNat (0 : Int) + (1 : Nat)) + (Atom.mk ((a.getD i.toNat default).Factors.getD k.toNat default).Atom.Kind ((a.getD i.toNat default).Factors.getD k.toNat default).Atom.Row ((a.getD i.toNat default).Factors.getD k.toNat default).Atom.Args ((a.getD i.toNat default).Factors.getD k.toNat default).Atom.Func ((a.getD i.toNat default).Factors.getD k.toNat default).Atom.Items ((a.getD i.toNat default).Factors.getD k.toNat default).Atom.Op ((a.getD i.toNat default).Factors.getD k.toNat default).Atom.Bound).Args.length + (Atom.mk ((a.getD i.toNat default).Factors.getD k.toNat default).Atom.Kind ((a.getD i.toNat default).Factors.getD k.toNat default).Atom.Row ((a.getD i.toNat default).Factors.getD k.toNat default).Atom.Args ((a.getD i.toNat default).Factors.getD k.toNat default).Atom.Func ((a.getD i.toNat default).Factors.getD k.toNat default).Atom.Items ((a.getD i.toNat default).Factors.getD k.toNat default).Atom.Op ((a.getD i.toNat default).Factors.getD k.toNat default).Atom.Bound).Items.length) + szTs a) a (IntKind.i64.wrap (n_ + (1 : Int))) i k (0 : Int) (Atom.mk ((a.getD i.toNat default).Factors.getD k.toNat default).Atom.Kind ((a.getD i.toNat default).Factors.getD k.toNat default).Atom.Row ((a.getD i.toNat default).Factors.getD k.toNat default).Atom.Args ((a.getD i.toNat default).Factors.getD k.toNat default).Atom.Func ((a.getD i.toNat default).Factors.getD k.toNat default).Atom.Items ((a.getD i.toNat default).Factors.getD k.toNat default).Atom.Op ((a.getD i.toNat default).Factors.getD k.toNat default).Atom.Bound)) fun r5 => .bn (zbd9 zw (((r5.fst.length + r5.snd.fst.toNat + r5.snd.snd.fst.toNat + r5.snd.snd.snd.fst.toNat + Int.toNat (0 : Int) + (1 : Nat)) + (Atom.mk r5.snd.snd.snd.snd.Kind r5.snd.snd.snd.snd.Row r5.snd.snd.snd.snd.Args r5.snd.snd.snd.snd.Func r5.snd.snd.snd.snd.Items r5.snd.snd.snd.snd.Op r5.snd.snd.snd.snd.Bound).Args.length + (Atom.mk r5.snd.snd.snd.snd.Kind r5.snd.snd.snd.snd.Row r5.snd.snd.snd.snd.Args r5.snd.snd.snd.snd.Func r5.snd.snd.snd.snd.Items r5.snd.snd.snd.snd.Op r5.snd.snd.snd.snd.Bound).Items.length) + szTs r5.fst) r5.fst r5.snd.fst r5.snd.snd.fst r5.snd.snd.snd.fst (0 : Int) (Atom.mk r5.snd.snd.snd.snd.Kind r5.snd.snd.snd.snd.Row r5.snd.snd.snd.snd.Args r5.snd.snd.snd.snd.Func r5.snd.snd.snd.snd.Items r5.snd.snd.snd.snd.Op r5.snd.snd.snd.snd.Bound)) fun r4 => .h ((r4.fst), (r4.snd.fst), (r4.snd.snd.fst), (IntKind.i64.wrap (r4.snd.snd.snd + (1 : Int))), ()) ()) .d) .d) (.k (a, n_, i))) .d
def zyl (zw : List Term → Bool × Int) (x : List Term × Int × Int × Int × Unit) (y : Unit) : Wy (List Term × Int × Int × Int × Unit) (Unit) (List Term × Int × Int) := zs9 zw x.1 x.2.1 x.2.2.1 x.2.2.2.1
def zbgp (zw : List Term → Bool × Int) (n : Nat) (a : List Term) (n_ : Int) (i : Int) (k : Int) : Bool × (List Term × Int × Int) := iterW (zyl zw) default n (a, n_, i, k, ()) ()
def zbdz (r : List Term × Int × Int) : LTree ty := .done (.exit 2) [.sl 42 r.1, .lit (.int .i64 r.2.1), .lit (.int .i64 r.2.2)] []
def zbgq : LL ty (List Term × Int × Int × Int × Unit) := llCons (lSl 42) (llCons (lInt .i64) (llCons (lInt .i64) (llCons (lInt .i64) llNil)))
def zbgc : BL ty (Unit) := bNil
def zs5 (zw : List Term → Bool × Int) (a : List Term) (n_ : Int) (i : Int) : Wy (List Term × Int × Int × Unit) (Unit) (Int) := .i (decide (i < Int.ofNat a.length)) (.bn (zbgp zw ((a.length + (IntKind.i64.wrap (n_ + (1 : Int))).toNat + i.toNat + Int.toNat (0 : Int) + (1 : Nat)) + szTs a) a (IntKind.i64.wrap (n_ + (1 : Int))) i (0 : Int)) fun r8 => .h ((r8.fst), (r8.snd.fst), (IntKind.i64.wrap (r8.snd.snd + (1 : Int))), ()) ()) (.k n_)
def zxw (zw : List Term → Bool × Int) (x : List Term × Int × Int × Unit) (y : Unit) : Wy (List Term × Int × Int × Unit) (Unit) (Int) := zs5 zw x.1 x.2.1 x.2.2.1
def zbgr (zw : List Term → Bool × Int) (n : Nat) (a : List Term) (n_ : Int) (i : Int) : Bool × Int := iterW (zxw zw) default n (a, n_, i, ()) ()
def zbdu (r : Int) : LTree ty := .done (.exit 0) [.lit (.int .i64 r)] []
def zbgo : LL ty (List Term × Int × Int × Unit) := llCons (lSl 42) (llCons (lInt .i64) (llCons (lInt .i64) llNil))
def zbgn : BL ty (Unit) := bNil
def zs0 (zw : List Term → Bool × Int) : Cx ty := mkCx base 71 [(48, (zy5 zw))] [] [(3, [(0, .keep), (3, .keep), (4, .keep)]), (7, [(0, .keep), (3, .keep), (4, .keep), (5, .keep)]), (12, [(0, .keep), (3, .keep), (4, .keep), (5, .keep), (6, .keep), (7, .keep)]), (16, [(0, .keep), (3, .keep), (4, .keep), (5, .keep), (6, .keep), (8, .keep)])] [(3, 1, [(3, .keep)]), (7, 3, [(0, .keep), (3, .keep), (4, .keep)]), (12, 5, [(0, .keep), (3, .keep), (4, .keep), (5, .keep), (6, .keep)]), (16, 7, [(0, .keep), (3, .keep), (4, .keep), (5, .keep)])] [(12, spW zbe2 zbeu (zwd zw) default zbco fun x y => (((x.1.length + Int.toNat x.2.1 + Int.toNat x.2.2.1 + Int.toNat x.2.2.2.1 + Int.toNat x.2.2.2.2.2.1 + 1) + y.1.Args.length + y.1.Items.length) + szTs x.1)), (16, spW zbds zbe3 (zvy zw) default zbcl fun x y => (((x.1.length + Int.toNat x.2.1 + Int.toNat x.2.2.1 + Int.toNat x.2.2.2.1 + Int.toNat x.2.2.2.2.2.1 + 1) + y.1.Args.length + y.1.Items.length) + szTs x.1)), (7, spW zbgq zbgc (zyl zw) default zbdz fun x y => ((x.1.length + Int.toNat x.2.1 + Int.toNat x.2.2.1 + Int.toNat x.2.2.2.1 + 1) + szTs x.1)), (3, spW zbgo zbgn (zxw zw) default zbdu fun x y => ((x.1.length + Int.toNat x.2.1 + Int.toNat x.2.2.1 + 1) + szTs x.1))] []
theorem zbmn (zw : List Term → Bool × Int) : LoopOK (zs0 zw) (lp (body Tryz.f48) 2) := loopOK_W (id := 12) (V := zbe2) (B := zbeu) (W := zwd zw) (z := default) (tr := zbco) (m := fun x y => (((x.1.length + Int.toNat x.2.1 + Int.toNat x.2.2.1 + Int.toNat x.2.2.2.1 + Int.toNat x.2.2.2.2.2.1 + 1) + y.1.Args.length + y.1.Items.length) + szTs x.1)) (by kernel_rfl) (by kernel_rfl) fun R H K x y => by kernel_rfl
theorem zbmu (zw : List Term → Bool × Int) : LoopOK (zs0 zw) (lp (body Tryz.f48) 3) := loopOK_W (id := 16) (V := zbds) (B := zbe3) (W := zvy zw) (z := default) (tr := zbcl) (m := fun x y => (((x.1.length + Int.toNat x.2.1 + Int.toNat x.2.2.1 + Int.toNat x.2.2.2.1 + Int.toNat x.2.2.2.2.2.1 + 1) + y.1.Args.length + y.1.Items.length) + szTs x.1)) (by kernel_rfl) (by kernel_rfl) fun R H K x y => by kernel_rfl
theorem zbnn (zw : List Term → Bool × Int) : LoopOK (zs0 zw) (lp (body Tryz.f48) 1) := loopOK_W (id := 7) (V := zbgq) (B := zbgc) (W := zyl zw) (z := default) (tr := zbdz) (m := fun x y => ((x.1.length + Int.toNat x.2.1 + Int.toNat x.2.2.1 + Int.toNat x.2.2.2.1 + 1) + szTs x.1)) (by kernel_rfl) (by kernel_rfl) fun R H K x y => by kernel_rfl
theorem zbny (zw : List Term → Bool × Int) : LoopOK (zs0 zw) (lp (body Tryz.f48) 0) := loopOK_W (id := 3) (V := zbgo) (B := zbgn) (W := zxw zw) (z := default) (tr := zbdu) (m := fun x y => ((x.1.length + Int.toNat x.2.1 + Int.toNat x.2.2.1 + 1) + szTs x.1)) (by kernel_rfl) (by kernel_rfl) fun R H K x y => by kernel_rfl
def z7w (zw : List Term → Bool × Int) (a : List Term) : Wy0 (Int) := .bn (zbgr zw ((a.length + Int.toNat (0 : Int) + Int.toNat (0 : Int) + (1 : Nat)) + szTs a) a (0 : Int) (0 : Int)) fun r10 => .k r10
def z6b (zw : List Term → Bool × Int) (a : List Term) : Bool × Int := (z7w zw a).fin default
theorem zblq (zw : List Term → Bool × Int) (zbo4 : Sound Tryz.prog base 48 (zy5 zw)) : Sound Tryz.prog base 48 (zy5 (z6b zw)) :=
  sound_W (cx' := (zs0 zw)) draws base_ok mkSame (mkSpecs ⟨(zbo4), trivial⟩) Tryz.call48 Tryz.func48 (c := body Tryz.f48) (by kernel_rfl) (loopsOK_of (l := [lp (body Tryz.f48) 0, lp (body Tryz.f48) 1, lp (body Tryz.f48) 2, lp (body Tryz.f48) 3]) (by kernel_rfl) ⟨zbny zw, zbnn zw, zbmn zw, zbmu zw, trivial⟩) (sg := ⟨[.pure], []⟩) (A := zbli) (res := zbij) (W := fun x => z7w zw x.1) (z := default) (fun x => by kernel_rfl) (fun _ => by kernel_rfl)
def zbpz : Nat → (List Term → Bool × Int)
  | 0 => fun _ => (false, default)
  | n + 1 => z6b (zbpz n)
def zuq (n : Nat) : List Term → Bool × Int := zbpz n
theorem zbn0 (n : Nat) : zuq (n + 1) = z6b (zuq n) := rfl
theorem zbm4 : ∀ n, Sound Tryz.prog base 48 (zy5 (zuq n))
  | 0 => sound_false Tryz.call48 (fun _ => rfl)
  | n + 1 => by
    have ih := zbm4 n
    exact zblq _ (ih)
def zbi8 : List Term → Bool × Int := zuq 1000
def zbf9 : Ab.Spec ty := zy5 zbi8
theorem zbnl : Sound Tryz.prog base 48 zbf9 := (zbm4 1000)
def zxf (a : List Term) (i : Int) (k : Int) : Wy (List Term × Int × Int × Unit) (Unit) (Bool ⊕ (List Term × Int)) := .i (decide ((0 : Int) ≤ i) && decide (i < Int.ofNat a.length)) (.i (decide (k < Int.ofNat (a.getD i.toNat default).Factors.length)) (.i (decide ((0 : Int) ≤ i) && decide (i < Int.ofNat a.length)) (.i (decide ((0 : Int) ≤ k) && decide (k < Int.ofNat (a.getD i.toNat default).Factors.length)) (.i (decide (((a.getD i.toNat default).Factors.getD k.toNat default).Exp > (64 : Int))) (.k (.inl false)) (.i (decide ((0 : Int) ≤ i) && decide (i < Int.ofNat a.length)) (.i (decide ((0 : Int) ≤ k) && decide (k < Int.ofNat (a.getD i.toNat default).Factors.length)) (.i (decide (Int.ofNat ((a.getD i.toNat default).Factors.getD k.toNat default).Atom.Items.length > (1024 : Int))) (.k (.inl false)) (.h (a, i, (IntKind.i64.wrap (k + (1 : Int))), ()) ())) .d) .d)) .d) .d) (.k (.inr (a, i)))) .d
def z2v (x : List Term × Int × Int × Unit) (y : Unit) : Wy (List Term × Int × Int × Unit) (Unit) (Bool ⊕ (List Term × Int)) := zxf x.1 x.2.1 x.2.2.1
def zbkh (n : Nat) (a : List Term) (i : Int) (k : Int) : Bool × (Bool ⊕ (List Term × Int)) := iterW (z2v) (.inl default) n (a, i, k, ()) ()
def zbid (r : Bool ⊕ (List Term × Int)) : LTree ty := .ite (isL r) (.done .ret [.lit (.bool (getL r))] []) (.done (.exit 2) [.sl 42 ((getR r).1), .lit (.int .i64 ((getR r).2))] [])
def zbj0 : LL ty (List Term × Int × Int × Unit) := llCons (lSl 42) (llCons (lInt .i64) (llCons (lInt .i64) llNil))
def zbko : BL ty (Unit) := bNil
def zw8 (a : List Term) (i : Int) : Wy (List Term × Int × Unit) (Unit) (Bool ⊕ Unit) := .i (decide (i < Int.ofNat a.length)) (.i (decide ((0 : Int) ≤ i) && decide (i < Int.ofNat a.length)) (.i (decide (Int.ofNat (a.getD i.toNat default).Factors.length > (64 : Int))) (.k (.inl false)) (.bn (zbkh ((a.length + i.toNat + Int.toNat (0 : Int) + (1 : Nat)) + szTs a) a i (0 : Int)) fun r0 => .i (isL r0) (.k (.inl (getL r0))) (.h (((getR r0).fst), (IntKind.i64.wrap ((getR r0).snd + (1 : Int))), ()) ()))) .d) (.k (.inr ()))
def z2x (x : List Term × Int × Unit) (y : Unit) : Wy (List Term × Int × Unit) (Unit) (Bool ⊕ Unit) := zw8 x.1 x.2.1
def zbjt (n : Nat) (a : List Term) (i : Int) : Bool × (Bool ⊕ Unit) := iterW (z2x) (.inl default) n (a, i, ()) ()
def zbhy (r : Bool ⊕ Unit) : LTree ty := .ite (isL r) (.done .ret [.lit (.bool (getL r))] []) (.done (.exit 0) [] [])
def zbkn : LL ty (List Term × Int × Unit) := llCons (lSl 42) (llCons (lInt .i64) llNil)
def zbj4 : BL ty (Unit) := bNil
def zbaz : Cx ty := mkCx base 65 [(48, zbf9), (147, z9z)] [] [(4, [(0, .keep), (3, .keep)]), (9, [(0, .keep), (3, .keep), (4, .keep)])] [(4, 1, []), (4, 0, [(2, .keep)]), (9, 3, [(0, .keep), (3, .keep)]), (9, 0, [(2, .keep)])] [(9, spW zbj0 zbko (z2v) (.inl default) zbid fun x y => ((x.1.length + Int.toNat x.2.1 + Int.toNat x.2.2.1 + 1) + szTs x.1)), (4, spW zbkn zbj4 (z2x) (.inl default) zbhy fun x y => ((x.1.length + Int.toNat x.2.1 + 1) + szTs x.1))] []
theorem zbpc : LoopOK zbaz (lp (body Tryz.f102) 1) := loopOK_W (id := 9) (V := zbj0) (B := zbko) (W := z2v) (z := .inl default) (tr := zbid) (m := fun x y => ((x.1.length + Int.toNat x.2.1 + Int.toNat x.2.2.1 + 1) + szTs x.1)) (by kernel_rfl) (by kernel_rfl) fun R H K x y => by kernel_rfl
theorem zbpd : LoopOK zbaz (lp (body Tryz.f102) 0) := loopOK_W (id := 4) (V := zbkn) (B := zbj4) (W := z2x) (z := .inl default) (tr := zbhy) (m := fun x y => ((x.1.length + Int.toNat x.2.1 + 1) + szTs x.1)) (by kernel_rfl) (by kernel_rfl) fun R H K x y => by kernel_rfl
def zben (a : List Term) : Wy0 (Bool) := .i (decide (Int.ofNat a.length > (512 : Int))) (.k false) (.bn (zba8 a) fun r4 => .i (decide (r4 > (8 : Int))) (.k false) (.bn (zbi8 a) fun r3 => .i (decide (r3 > (4096 : Int))) (.k false) (.bn (zbjt ((a.length + Int.toNat (0 : Int) + (1 : Nat)) + szTs a) a (0 : Int)) fun r2 => .i (isL r2) (.k (getL r2)) (.k true))))
def zz4 (a : List Term) : Bool × Bool := (zben a).fin default
def zbie (r : Bool) : ARes ty := ⟨[.pure (.lit (.bool r))], []⟩
def zblw : AL base (List Term × Unit) := aCons (aPure (vSl 42)) aNil
def z4u : Ab.Spec ty := mkSpec zblw fun x => ((zz4 x.1).1, zbie (zz4 x.1).2)
theorem zbd6 : Sound Tryz.prog base 102 z4u :=
  sound_W (cx' := zbaz) draws base_ok mkSame (mkSpecs ⟨(zbnl), (zbkx), trivial⟩) Tryz.call102 Tryz.func102 (c := body Tryz.f102) (by kernel_rfl) (loopsOK_of (l := [lp (body Tryz.f102) 0, lp (body Tryz.f102) 1]) (by kernel_rfl) ⟨zbpd, zbpc, trivial⟩) (sg := ⟨[.pure], []⟩) (A := zblw) (res := zbie) (W := fun x => zben x.1) (z := default) (fun x => by kernel_rfl) (fun _ => by kernel_rfl)
def zp6 (z7 : Atom → Bool × Bool) (a : List Term) (i : Int) (k : Int) (t : Term) : Wy (List Term × Int × Unit × Int × Unit) (Term × Unit) (Bool ⊕ (List Term × Int)) := .i (decide (k < Int.ofNat t.Factors.length)) (.i (decide ((0 : Int) ≤ k) && decide (k < Int.ofNat t.Factors.length)) (.i (decide ((t.Factors.getD k.toNat default).Exp < (1 : Int))) (.k (.inl false)) (.i (decide ((t.Factors.getD k.toNat default).Exp > (1 : Int))) (.i (decide ((t.Factors.getD k.toNat default).Atom.Kind ≥ (3 : Int))) (.k (.inl false)) (.bn (z7 (Atom.mk (t.Factors.getD k.toNat default).Atom.Kind (t.Factors.getD k.toNat default).Atom.Row (t.Factors.getD k.toNat default).Atom.Args (t.Factors.getD k.toNat default).Atom.Func (t.Factors.getD k.toNat default).Atom.Items (t.Factors.getD k.toNat default).Atom.Op (t.Factors.getD k.toNat default).Atom.Bound)) fun r1 => .i (!r1) (.k (.inl false)) (.i (decide (k > (0 : Int))) (.i (decide ((0 : Int) ≤ IntKind.i64.wrap (k - (1 : Int))) && decide (IntKind.i64.wrap (k - (1 : Int)) < Int.ofNat t.Factors.length)) (.bn (zt6 (Atom.mk (t.Factors.getD (IntKind.i64.wrap (k - (1 : Int))).toNat default).Atom.Kind (t.Factors.getD (IntKind.i64.wrap (k - (1 : Int))).toNat default).Atom.Row (t.Factors.getD (IntKind.i64.wrap (k - (1 : Int))).toNat default).Atom.Args (t.Factors.getD (IntKind.i64.wrap (k - (1 : Int))).toNat default).Atom.Func (t.Factors.getD (IntKind.i64.wrap (k - (1 : Int))).toNat default).Atom.Items (t.Factors.getD (IntKind.i64.wrap (k - (1 : Int))).toNat default).Atom.Op (t.Factors.getD (IntKind.i64.wrap (k - (1 : Int))).toNat default).Atom.Bound) (Atom.mk (t.Factors.getD k.toNat default).Atom.Kind (t.Factors.getD k.toNat default).Atom.Row (t.Factors.getD k.toNat default).Atom.Args (t.Factors.getD k.toNat default).Atom.Func (t.Factors.getD k.toNat default).Atom.Items (t.Factors.getD k.toNat default).Atom.Op (t.Factors.getD k.toNat default).Atom.Bound)) fun r0 => .i (decide (r0 ≥ (0 : Int))) (.k (.inl false)) (.h (a, i, (), (IntKind.i64.wrap (k + (1 : Int))), ()) (t, ()))) .d) (.h (a, i, (), (IntKind.i64.wrap (k + (1 : Int))), ()) (t, ()))))) (.bn (z7 (Atom.mk (t.Factors.getD k.toNat default).Atom.Kind (t.Factors.getD k.toNat default).Atom.Row (t.Factors.getD k.toNat default).Atom.Args (t.Factors.getD k.toNat default).Atom.Func (t.Factors.getD k.toNat default).Atom.Items (t.Factors.getD k.toNat default).Atom.Op (t.Factors.getD k.toNat default).Atom.Bound)) fun r3 => .i (!r3) (.k (.inl false)) (.i (decide (k > (0 : Int))) (.i (decide ((0 : Int) ≤ IntKind.i64.wrap (k - (1 : Int))) && decide (IntKind.i64.wrap (k - (1 : Int)) < Int.ofNat t.Factors.length)) (.bn (zt6 (Atom.mk (t.Factors.getD (IntKind.i64.wrap (k - (1 : Int))).toNat default).Atom.Kind (t.Factors.getD (IntKind.i64.wrap (k - (1 : Int))).toNat default).Atom.Row (t.Factors.getD (IntKind.i64.wrap (k - (1 : Int))).toNat default).Atom.Args (t.Factors.getD (IntKind.i64.wrap (k - (1 : Int))).toNat default).Atom.Func (t.Factors.getD (IntKind.i64.wrap (k - (1 : Int))).toNat default).Atom.Items (t.Factors.getD (IntKind.i64.wrap (k - (1 : Int))).toNat default).Atom.Op (t.Factors.getD (IntKind.i64.wrap (k - (1 : Int))).toNat default).Atom.Bound) (Atom.mk (t.Factors.getD k.toNat default).Atom.Kind (t.Factors.getD k.toNat default).Atom.Row (t.Factors.getD k.toNat default).Atom.Args (t.Factors.getD k.toNat default).Atom.Func (t.Factors.getD k.toNat default).Atom.Items (t.Factors.getD k.toNat default).Atom.Op (t.Factors.getD k.toNat default).Atom.Bound)) fun r2 => .i (decide (r2 ≥ (0 : Int))) (.k (.inl false)) (.h (a, i, (), (IntKind.i64.wrap (k + (1 : Int))), ()) (t, ()))) .d) (.h (a, i, (), (IntKind.i64.wrap (k + (1 : Int))), ()) (t, ())))))) .d) (.k (.inr (a, i)))
def zt5 (z7 : Atom → Bool × Bool) (x : List Term × Int × Unit × Int × Unit) (y : Term × Unit) : Wy (List Term × Int × Unit × Int × Unit) (Term × Unit) (Bool ⊕ (List Term × Int)) := zp6 z7 x.1 x.2.1 x.2.2.2.1 y.1
def z07 (z7 : Atom → Bool × Bool) (n : Nat) (a : List Term) (i : Int) (k : Int) (t : Term) : Bool × (Bool ⊕ (List Term × Int)) := iterW (zt5 z7) (.inl default) n (a, i, (), k, ()) (t, ())
def z9a (r : Bool ⊕ (List Term × Int)) : LTree ty := .ite (isL r) (.done .ret [.lit (.bool (getL r))] []) (.done (.exit 2) [.sl 42 ((getR r).1), .lit (.int .i64 ((getR r).2))] [])
def zbca : LL ty (List Term × Int × Unit × Int × Unit) := llCons (lSl 42) (llCons (lInt .i64) (llCons (lPtrC 372 0) (llCons (lInt .i64) llNil)))
def zbcm : BL ty (Term × Unit) := bBox (llMap (fun x => (⟨x.1, x.2.1⟩ : Term)) (fun x => (x.Coeff, x.Factors, ())) (fun _ => rfl) (llCons (lInt .i64) (llCons (lSl 50) llNil))) false (bNil)
def zrz (z7 : Atom → Bool × Bool) (a : List Term) (i : Int) : Wy (List Term × Int × Unit) (Unit) (Bool ⊕ Unit) := .i (decide (i < Int.ofNat a.length)) (.i (decide ((0 : Int) ≤ i) && decide (i < Int.ofNat a.length)) (.i (decide ((a.getD i.toNat default).Coeff < (1 : Int))) (.k (.inl false)) (.i (decide ((a.getD i.toNat default).Coeff > (1152921504606846976 : Int))) (.k (.inl false)) (.i (decide (i > (0 : Int))) (.i (decide ((0 : Int) ≤ IntKind.i64.wrap (i - (1 : Int))) && decide (IntKind.i64.wrap (i - (1 : Int)) < Int.ofNat a.length)) (.bn (zv4 (a.getD (IntKind.i64.wrap (i - (1 : Int))).toNat default).Factors (a.getD i.toNat default).Factors) fun r9 => .i (decide (r9 ≥ (0 : Int))) (.k (.inl false)) (.bn (z07 z7 (((a.length + i.toNat + Int.toNat (0 : Int) + (1 : Nat)) + (a.getD i.toNat default).Factors.length) + szTs a) a i (0 : Int) (a.getD i.toNat default)) fun r8 => .i (isL r8) (.k (.inl (getL r8))) (.h (((getR r8).fst), (IntKind.i64.wrap ((getR r8).snd + (1 : Int))), ()) ()))) .d) (.bn (z07 z7 (((a.length + i.toNat + Int.toNat (0 : Int) + (1 : Nat)) + (a.getD i.toNat default).Factors.length) + szTs a) a i (0 : Int) (a.getD i.toNat default)) fun r10 => .i (isL r10) (.k (.inl (getL r10))) (.h (((getR r10).fst), (IntKind.i64.wrap ((getR r10).snd + (1 : Int))), ()) ()))))) .d) (.k (.inr ()))
def zvu (z7 : Atom → Bool × Bool) (x : List Term × Int × Unit) (y : Unit) : Wy (List Term × Int × Unit) (Unit) (Bool ⊕ Unit) := zrz z7 x.1 x.2.1
def zbeg (z7 : Atom → Bool × Bool) (n : Nat) (a : List Term) (i : Int) : Bool × (Bool ⊕ Unit) := iterW (zvu z7) (.inl default) n (a, i, ()) ()
def zbbz (r : Bool ⊕ Unit) : LTree ty := .ite (isL r) (.done .ret [.lit (.bool (getL r))] []) (.done (.exit 0) [] [])
def zbep : LL ty (List Term × Int × Unit) := llCons (lSl 42) (llCons (lInt .i64) llNil)
def zbes : BL ty (Unit) := bNil
def z28 (z7 : Atom → Bool × Bool) : Cx ty := mkCx base 93 [(89, zyd), (102, z4u), (103, (zqd z7)), (104, z2j)] [] [(4, [(0, .keep), (3, .keep)]), (10, [(0, .keep), (3, .keep), (4, .keep), (5, .keep)])] [(4, 1, []), (4, 0, [(2, .keep)]), (10, 3, [(0, .keep), (3, .keep)]), (10, 0, [(2, .keep)])] [(10, spW zbca zbcm (zt5 z7) (.inl default) z9a fun x y => (((x.1.length + Int.toNat x.2.1 + Int.toNat x.2.2.2.1 + 1) + y.1.Factors.length) + szTs x.1)), (4, spW zbep zbes (zvu z7) (.inl default) zbbz fun x y => ((x.1.length + Int.toNat x.2.1 + 1) + szTs x.1))] []
theorem zblj (z7 : Atom → Bool × Bool) : LoopOK (z28 z7) (lp (body Tryz.f46) 1) := loopOK_W (id := 10) (V := zbca) (B := zbcm) (W := zt5 z7) (z := .inl default) (tr := z9a) (m := fun x y => (((x.1.length + Int.toNat x.2.1 + Int.toNat x.2.2.2.1 + 1) + y.1.Factors.length) + szTs x.1)) (by kernel_rfl) (by kernel_rfl) fun R H K x y => by kernel_rfl
theorem zbmq (z7 : Atom → Bool × Bool) : LoopOK (z28 z7) (lp (body Tryz.f46) 0) := loopOK_W (id := 4) (V := zbep) (B := zbes) (W := zvu z7) (z := .inl default) (tr := zbbz) (m := fun x y => ((x.1.length + Int.toNat x.2.1 + 1) + szTs x.1)) (by kernel_rfl) (by kernel_rfl) fun R H K x y => by kernel_rfl
def z5z (z7 : Atom → Bool × Bool) (a : List Term) : Wy0 (Bool) := .bn (zz4 a) fun r15 => .i (!r15) (.k false) (.bn (zbeg z7 ((a.length + Int.toNat (0 : Int) + (1 : Nat)) + szTs a) a (0 : Int)) fun r14 => .i (isL r14) (.k (getL r14)) (.k true))
def zw7 (z7 : Atom → Bool × Bool) (a : List Term) : Bool × Bool := (z5z z7 a).fin default
theorem zbku (z7 : Atom → Bool × Bool) (zbk4 : Sound Tryz.prog base 103 (zqd z7)) : Sound Tryz.prog base 46 (zwn (zw7 z7)) :=
  sound_W (cx' := (z28 z7)) draws base_ok mkSame (mkSpecs ⟨(zbbl), (zbd6), (zbk4), (zbfa), trivial⟩) Tryz.call46 Tryz.func46 (c := body Tryz.f46) (by kernel_rfl) (loopsOK_of (l := [lp (body Tryz.f46) 0, lp (body Tryz.f46) 1]) (by kernel_rfl) ⟨zbmq z7, zblj z7, trivial⟩) (sg := ⟨[.pure], []⟩) (A := zbkl) (res := zbf3) (W := fun x => z5z z7 x.1) (z := default) (fun x => by kernel_rfl) (fun _ => by kernel_rfl)
def zbn7 : Cx ty := mkCx base 42 [] [] [] [] [] []
def z8g (a : List Term) : Wy0 (Bool) := .i (Int.ofNat a.length == (1 : Int)) (.i (decide ((0 : Int) ≤ (0 : Int)) && decide ((0 : Int) < Int.ofNat a.length)) (.i ((a.getD (Int.toNat (0 : Int)) default).Coeff == (1 : Int)) (.i (decide ((0 : Int) ≤ (0 : Int)) && decide ((0 : Int) < Int.ofNat a.length)) (.i (Int.ofNat (a.getD (Int.toNat (0 : Int)) default).Factors.length == (1 : Int)) (.i (decide ((0 : Int) ≤ (0 : Int)) && decide ((0 : Int) < Int.ofNat a.length)) (.i (decide ((0 : Int) ≤ (0 : Int)) && decide ((0 : Int) < Int.ofNat (a.getD (Int.toNat (0 : Int)) default).Factors.length)) (.i (decide (((a.getD (Int.toNat (0 : Int)) default).Factors.getD (Int.toNat (0 : Int)) default).Atom.Kind ≥ (2 : Int))) (.i (decide ((0 : Int) ≤ (0 : Int)) && decide ((0 : Int) < Int.ofNat a.length)) (.i (decide ((0 : Int) ≤ (0 : Int)) && decide ((0 : Int) < Int.ofNat (a.getD (Int.toNat (0 : Int)) default).Factors.length)) (.k (((a.getD (Int.toNat (0 : Int)) default).Factors.getD (Int.toNat (0 : Int)) default).Exp == (1 : Int))) .d) .d) (.k false)) .d) .d) (.k false)) .d) (.k false)) .d) (.k false)
def zum (a : List Term) : Bool × Bool := (z8g a).fin default
def zbdc (r : Bool) : ARes ty := ⟨[.pure (.lit (.bool r))], []⟩
def zbii : AL base (List Term × Unit) := aCons (aPure (vSl 42)) aNil
def zbcj : Ab.Spec ty := mkSpec zbii fun x => ((zum x.1).1, zbdc (zum x.1).2)
theorem zblg : Sound Tryz.prog base 66 zbcj :=
  sound_W (cx' := zbn7) draws base_ok mkSame (mkSpecs trivial) Tryz.call66 Tryz.func66 (c := body Tryz.f66) (by kernel_rfl) (loopsOK_of (l := []) (by kernel_rfl) trivial) (sg := ⟨[.pure], []⟩) (A := zbii) (res := zbdc) (W := fun x => z8g x.1) (z := default) (fun x => by kernel_rfl) (fun _ => by kernel_rfl)
def zqe (a : List Term) (i : Int) : Wy (List Term × Int × Unit) (Unit) (Bool ⊕ Unit) := .i (decide (i < Int.ofNat a.length)) (.i (decide ((0 : Int) ≤ i) && decide (i < Int.ofNat a.length)) (.i (Int.ofNat (a.getD i.toNat default).Factors.length == (0 : Int)) (.k (.inl true)) (.h (a, (IntKind.i64.wrap (i + (1 : Int))), ()) ())) .d) (.k (.inr ()))
def zt8 (x : List Term × Int × Unit) (y : Unit) : Wy (List Term × Int × Unit) (Unit) (Bool ⊕ Unit) := zqe x.1 x.2.1
def zbcu (n : Nat) (a : List Term) (i : Int) : Bool × (Bool ⊕ Unit) := iterW (zt8) (.inl default) n (a, i, ()) ()
def z81 (r : Bool ⊕ Unit) : LTree ty := .ite (isL r) (.done .ret [.lit (.bool (getL r))] []) (.done (.exit 0) [] [])
def zbbr : LL ty (List Term × Int × Unit) := llCons (lSl 42) (llCons (lInt .i64) llNil)
def zbcf : BL ty (Unit) := bNil
def zbbv : Cx ty := mkCx base 17 [] [] [(2, [(0, .keep), (3, .keep)])] [(2, 1, []), (2, 0, [(2, .keep)])] [(2, spW zbbr zbcf (zt8) (.inl default) z81 fun x y => (x.1.length + Int.toNat x.2.1 + 1))] []
theorem zblo : LoopOK zbbv (lp (body Tryz.f67) 0) := loopOK_W (id := 2) (V := zbbr) (B := zbcf) (W := zt8) (z := .inl default) (tr := z81) (m := fun x y => (x.1.length + Int.toNat x.2.1 + 1)) (by kernel_rfl) (by kernel_rfl) fun R H K x y => by kernel_rfl
def z29 (a : List Term) : Wy0 (Bool) := .bn (zbcu (a.length + Int.toNat (0 : Int) + (1 : Nat)) a (0 : Int)) fun r0 => .i (isL r0) (.k (getL r0)) (.k false)
def zn1 (a : List Term) : Bool × Bool := (z29 a).fin default
def z9s (r : Bool) : ARes ty := ⟨[.pure (.lit (.bool r))], []⟩
def zbde : AL base (List Term × Unit) := aCons (aPure (vSl 42)) aNil
def z7g : Ab.Spec ty := mkSpec zbde fun x => ((zn1 x.1).1, z9s (zn1 x.1).2)
theorem zbjl : Sound Tryz.prog base 67 z7g :=
  sound_W (cx' := zbbv) draws base_ok mkSame (mkSpecs trivial) Tryz.call67 Tryz.func67 (c := body Tryz.f67) (by kernel_rfl) (loopsOK_of (l := [lp (body Tryz.f67) 0]) (by kernel_rfl) ⟨zblo, trivial⟩) (sg := ⟨[.pure], []⟩) (A := zbde) (res := z9s) (W := fun x => z29 x.1) (z := default) (fun x => by kernel_rfl) (fun _ => by kernel_rfl)
def zbo9 : Cx ty := mkCx base 36 [] [] [] [] [] []
def zbbj (v : Value) : Wy0 (Bool) := .i (v.Kind == (0 : Int)) (.k (v.Text.toList == (ByteArray.mk #[]).toList)) (.i (v.Kind == (1 : Int)) (.i (v.Int == (0 : Int)) (.k (decide (Int.ofNat v.Text.size ≤ (255 : Int)))) (.k false)) (.i (v.Kind == (2 : Int)) (.i (v.Text.toList == (ByteArray.mk #[]).toList) (.i (v.Int == (0 : Int)) (.k true) (.k (v.Int == (1 : Int)))) (.k false)) (.k false)))
def zxg (v : Value) : Bool × Bool := (zbbj v).fin default
def zbf4 (r : Bool) : ARes ty := ⟨[.pure (.lit (.bool r))], []⟩
def zbj7 : AL base (Value × Unit) := aCons (aPure (vAgg 46)) aNil
def zbei : Ab.Spec ty := mkSpec zbj7 fun x => ((zxg x.1).1, zbf4 (zxg x.1).2)
theorem zbml : Sound Tryz.prog base 137 zbei :=
  sound_W (cx' := zbo9) draws base_ok mkSame (mkSpecs trivial) Tryz.call137 Tryz.func137 (c := body Tryz.f137) (by kernel_rfl) (loopsOK_of (l := []) (by kernel_rfl) trivial) (sg := ⟨[.pure], []⟩) (A := zbj7) (res := zbf4) (W := fun x => zbbj x.1) (z := default) (fun x => by kernel_rfl) (fun _ => by kernel_rfl)
def zuo (fn : Int) (items : List Weighted) (i : Int) (bound : Value) : Wy (Int × List Weighted × Unit × Int × Unit) (Value × Unit) (Bool ⊕ Unit) := .i (decide (i < Int.ofNat items.length)) (.i (decide ((0 : Int) ≤ i) && decide (i < Int.ofNat items.length)) (.bn (zxg (items.getD i.toNat default).Value) fun r0 => .i (!r0) (.k (.inl false)) (.i ((items.getD i.toNat default).Value.Kind != bound.Kind) (.k (.inl false)) (.i (fn == (0 : Int)) (.i ((items.getD i.toNat default).Value.Int != (1 : Int)) (.k (.inl false)) (.h (fn, items, (), (IntKind.i64.wrap (i + (1 : Int))), ()) (bound, ()))) (.h (fn, items, (), (IntKind.i64.wrap (i + (1 : Int))), ()) (bound, ()))))) .d) (.k (.inr ()))
def zz9 (x : Int × List Weighted × Unit × Int × Unit) (y : Value × Unit) : Wy (Int × List Weighted × Unit × Int × Unit) (Value × Unit) (Bool ⊕ Unit) := zuo x.1 x.2.1 x.2.2.2.1 y.1
def z73 (n : Nat) (fn : Int) (items : List Weighted) (i : Int) (bound : Value) : Bool × (Bool ⊕ Unit) := iterW (zz9) (.inl default) n (fn, items, (), i, ()) (bound, ())
def zbgk (r : Bool ⊕ Unit) : LTree ty := .ite (isL r) (.done .ret [.lit (.bool (getL r))] []) (.done (.exit 0) [] [])
def zbiq : LL ty (Int × List Weighted × Unit × Int × Unit) := llCons (lInt .i64) (llCons (lSl 52) (llCons (lPtrC 276 0) (llCons (lInt .i64) llNil)))
def zbik : BL ty (Value × Unit) := bBox (llMap (fun x => (⟨x.1, x.2.1, x.2.2.1⟩ : Value)) (fun x => (x.Kind, x.Int, x.Text, ())) (fun _ => rfl) (llCons (lInt .i64) (llCons (lInt .i64) (llCons lStr llNil)))) false (bNil)
def zbh4 : Cx ty := mkCx base 69 [(137, zbei)] [] [(4, [(0, .keep), (1, .keep), (7, .keep), (9, .keep)])] [(4, 1, []), (4, 0, [(8, .keep)])] [(4, spW zbiq zbik (zz9) (.inl default) zbgk fun x y => (Int.toNat x.1 + x.2.1.length + Int.toNat x.2.2.2.1 + 1))] []
theorem zbof : LoopOK zbh4 (lp (body Tryz.f80) 0) := loopOK_W (id := 4) (V := zbiq) (B := zbik) (W := zz9) (z := .inl default) (tr := zbgk) (m := fun x y => (Int.toNat x.1 + x.2.1.length + Int.toNat x.2.2.2.1 + 1)) (by kernel_rfl) (by kernel_rfl) fun R H K x y => by kernel_rfl
def zba6 (fn : Int) (items : List Weighted) (op : Int) (bound : Value) : Wy0 (Bool) := .i (decide (fn < (0 : Int))) (.k false) (.i (decide (fn > (3 : Int))) (.k false) (.i (decide (op < (5 : Int))) (.k false) (.i (decide (op > (10 : Int))) (.k false) (.bn (zxg bound) fun r4 => .i (!r4) (.k false) (.i (decide (fn ≤ (1 : Int))) (.i (bound.Kind != (0 : Int)) (.k false) (.bn (z73 (fn.toNat + items.length + Int.toNat (0 : Int) + (1 : Nat)) fn items (0 : Int) bound) fun r2 => .i (isL r2) (.k (getL r2)) (.k true))) (.bn (z73 (fn.toNat + items.length + Int.toNat (0 : Int) + (1 : Nat)) fn items (0 : Int) bound) fun r3 => .i (isL r3) (.k (getL r3)) (.k true)))))))
def zxh (fn : Int) (items : List Weighted) (op : Int) (bound : Value) : Bool × Bool := (zba6 fn items op bound).fin default
def zbga (r : Bool) : ARes ty := ⟨[.pure (.lit (.bool r))], []⟩
def zbka : AL base (Int × List Weighted × Int × Value × Unit) := aCons (aPure (vInt .i64)) (aCons (aPure (vSl 52)) (aCons (aPure (vInt .i64)) (aCons (aPure (vAgg 46)) aNil)))
def z23 : Ab.Spec ty := mkSpec zbka fun x => ((zxh x.1 x.2.1 x.2.2.1 x.2.2.2.1).1, zbga (zxh x.1 x.2.1 x.2.2.1 x.2.2.2.1).2)
theorem zbbt : Sound Tryz.prog base 80 z23 :=
  sound_W (cx' := zbh4) draws base_ok mkSame (mkSpecs ⟨(zbml), trivial⟩) Tryz.call80 Tryz.func80 (c := body Tryz.f80) (by kernel_rfl) (loopsOK_of (l := [lp (body Tryz.f80) 0]) (by kernel_rfl) ⟨zbof, trivial⟩) (sg := ⟨[.pure], []⟩) (A := zbka) (res := zbga) (W := fun x => zba6 x.1 x.2.1 x.2.2.1 x.2.2.2.1) (z := default) (fun x => by kernel_rfl) (fun _ => by kernel_rfl)
def zbo3 : Cx ty := mkCx base 23 [] [] [] [] [] []
def zbbf (x_ : Atom) : Wy0 (Bool) := .i (x_.Func == (0 : Int)) (.i (Int.ofNat x_.Items.length == (0 : Int)) (.i (x_.Op == (0 : Int)) (.k (x_.Bound.Kind == (0 : Int) && (x_.Bound.Int == (0 : Int) && (x_.Bound.Text.toList == (ByteArray.mk #[]).toList && true)))) (.k false)) (.k false)) (.k false)
def zq3 (x_ : Atom) : Bool × Bool := (zbbf x_).fin default
def zbf5 (r : Bool) : ARes ty := ⟨[.pure (.lit (.bool r))], []⟩
def zbju : AL base (Atom × Unit) := aCons (aPure (vAgg 48)) aNil
def zbe6 : Ab.Spec ty := mkSpec zbju fun x => ((zq3 x.1).1, zbf5 (zq3 x.1).2)
theorem zbm0 : Sound Tryz.prog base 148 zbe6 :=
  sound_W (cx' := zbo3) draws base_ok mkSame (mkSpecs trivial) Tryz.call148 Tryz.func148 (c := body Tryz.f148) (by kernel_rfl) (loopsOK_of (l := []) (by kernel_rfl) trivial) (sg := ⟨[.pure], []⟩) (A := zbju) (res := zbf5) (W := fun x => zbbf x.1) (z := default) (fun x => by kernel_rfl) (fun _ => by kernel_rfl)
def zmb (zbi : List Term → Bool × Bool) (i : Int) (x_ : Atom) : Wy (Unit × Int × Unit) (Atom × Unit) (Bool ⊕ Atom) := .i (decide (i < Int.ofNat x_.Args.length)) (.i (decide ((0 : Int) ≤ i) && decide (i < Int.ofNat x_.Args.length)) (.i (Int.ofNat (List.length (x_.Args.getD i.toNat default)) == (0 : Int)) (.k (.inl false)) (.i (decide ((0 : Int) ≤ i) && decide (i < Int.ofNat x_.Args.length)) (.bn (zbi (x_.Args.getD i.toNat default)) fun r0 => .i (!r0) (.k (.inl false)) (.h ((), (IntKind.i64.wrap (i + (1 : Int))), ()) (x_, ()))) .d)) .d) (.k (.inr x_))
def zqp (zbi : List Term → Bool × Bool) (x : Unit × Int × Unit) (y : Atom × Unit) : Wy (Unit × Int × Unit) (Atom × Unit) (Bool ⊕ Atom) := zmb zbi x.2.1 y.1
def zwb (zbi : List Term → Bool × Bool) (n : Nat) (i : Int) (x_ : Atom) : Bool × (Bool ⊕ Atom) := iterW (zqp zbi) (.inl default) n ((), i, ()) (x_, ())
def z3p (r : Bool ⊕ Atom) : LTree ty := .ite (isL r) (.done .ret [.lit (.bool (getL r))] []) (.done (.exit 0) [.ptr 824 0] [.box (base.enc 48 (getR r)) false])
def z4w : LL ty (Unit × Int × Unit) := llCons (lPtrC 824 0) (llCons (lInt .i64) llNil)
def z4v : BL ty (Atom × Unit) := bBox (llMap (fun x => (⟨x.1, ⟨x.2.1, x.2.2.1⟩, x.2.2.2.1, x.2.2.2.2.1, x.2.2.2.2.2.1, x.2.2.2.2.2.2.1, ⟨x.2.2.2.2.2.2.2.1, x.2.2.2.2.2.2.2.2.1, x.2.2.2.2.2.2.2.2.2.1⟩⟩ : Atom)) (fun x => (x.Kind, x.Row.Table, x.Row.Seq, x.Args, x.Func, x.Items, x.Op, x.Bound.Kind, x.Bound.Int, x.Bound.Text, ())) (fun _ => rfl) (llCons (lInt .i64) (llCons (lInt .i64) (llCons (lInt .i64) (llCons (lSl 23) (llCons (lInt .i64) (llCons (lSl 52) (llCons (lInt .i64) (llCons (lInt .i64) (llCons (lInt .i64) (llCons lStr llNil))))))))))) false (bNil)
def zlk (zbi : List Term → Bool × Bool) (i : Int) (x_ : Atom) : Wy (Unit × Int × Unit) (Atom × Unit) (Bool ⊕ Unit) := .i (decide (i < Int.ofNat x_.Items.length)) (.i (decide ((0 : Int) ≤ i) && decide (i < Int.ofNat x_.Items.length)) (.i (Int.ofNat (x_.Items.getD i.toNat default).Ann.length == (0 : Int)) (.k (.inl false)) (.i (decide ((0 : Int) ≤ i) && decide (i < Int.ofNat x_.Items.length)) (.bn (zbi (x_.Items.getD i.toNat default).Ann) fun r3 => .i (!r3) (.k (.inl false)) (.i (decide (i > (0 : Int))) (.i (decide ((0 : Int) ≤ IntKind.i64.wrap (i - (1 : Int))) && decide (IntKind.i64.wrap (i - (1 : Int)) ≤ i) && decide (i ≤ Int.ofNat x_.Items.length)) (.i (decide ((0 : Int) ≤ i) && decide (i ≤ IntKind.i64.wrap (i + (1 : Int))) && decide (IntKind.i64.wrap (i + (1 : Int)) ≤ Int.ofNat x_.Items.length)) (.bn (zot (List.take (i.toNat - (IntKind.i64.wrap (i - (1 : Int))).toNat) (List.drop (IntKind.i64.wrap (i - (1 : Int))).toNat x_.Items)) (List.take ((IntKind.i64.wrap (i + (1 : Int))).toNat - i.toNat) (List.drop i.toNat x_.Items))) fun r2 => .i (decide (r2 > (0 : Int))) (.k (.inl false)) (.h ((), (IntKind.i64.wrap (i + (1 : Int))), ()) (x_, ()))) .d) .d) (.h ((), (IntKind.i64.wrap (i + (1 : Int))), ()) (x_, ())))) .d)) .d) (.k (.inr ()))
def zpk (zbi : List Term → Bool × Bool) (x : Unit × Int × Unit) (y : Atom × Unit) : Wy (Unit × Int × Unit) (Atom × Unit) (Bool ⊕ Unit) := zlk zbi x.2.1 y.1
def z3o (zbi : List Term → Bool × Bool) (n : Nat) (i : Int) (x_ : Atom) : Bool × (Bool ⊕ Unit) := iterW (zpk zbi) (.inl default) n ((), i, ()) (x_, ())
def z2c (r : Bool ⊕ Unit) : LTree ty := .ite (isL r) (.done .ret [.lit (.bool (getL r))] []) (.done (.exit 3) [] [])
def z3l : LL ty (Unit × Int × Unit) := llCons (lPtrC 824 0) (llCons (lInt .i64) llNil)
def z3m : BL ty (Atom × Unit) := bBox (llMap (fun x => (⟨x.1, ⟨x.2.1, x.2.2.1⟩, x.2.2.2.1, x.2.2.2.2.1, x.2.2.2.2.2.1, x.2.2.2.2.2.2.1, ⟨x.2.2.2.2.2.2.2.1, x.2.2.2.2.2.2.2.2.1, x.2.2.2.2.2.2.2.2.2.1⟩⟩ : Atom)) (fun x => (x.Kind, x.Row.Table, x.Row.Seq, x.Args, x.Func, x.Items, x.Op, x.Bound.Kind, x.Bound.Int, x.Bound.Text, ())) (fun _ => rfl) (llCons (lInt .i64) (llCons (lInt .i64) (llCons (lInt .i64) (llCons (lSl 23) (llCons (lInt .i64) (llCons (lSl 52) (llCons (lInt .i64) (llCons (lInt .i64) (llCons (lInt .i64) (llCons lStr llNil))))))))))) false (bNil)
def zv5 (zbi : List Term → Bool × Bool) : Cx ty := mkCx base 206 [(24, z41), (35, zni), (46, (zwn zbi)), (66, zbcj), (67, z7g), (80, z23), (148, zbe6)] [] [(6, [(1, .keep), (3, .keep)]), (21, [(1, .keep), (4, .keep)])] [(6, 1, [(1, .keep)]), (6, 0, [(2, .keep)]), (21, 4, []), (21, 0, [(2, .keep)])] [(6, spW z4w z4v (zqp zbi) (.inl default) z3p fun x y => ((Int.toNat x.2.1 + 1) + y.1.Args.length + y.1.Items.length)), (21, spW z3l z3m (zpk zbi) (.inl default) z2c fun x y => ((Int.toNat x.2.1 + 1) + y.1.Args.length + y.1.Items.length))] []
theorem zbh7 (zbi : List Term → Bool × Bool) : LoopOK (zv5 zbi) (lp (body Tryz.f103) 0) := loopOK_W (id := 6) (V := z4w) (B := z4v) (W := zqp zbi) (z := .inl default) (tr := z3p) (m := fun x y => ((Int.toNat x.2.1 + 1) + y.1.Args.length + y.1.Items.length)) (by kernel_rfl) (by kernel_rfl) fun R H K x y => by kernel_rfl
theorem zbg7 (zbi : List Term → Bool × Bool) : LoopOK (zv5 zbi) (lp (body Tryz.f103) 1) := loopOK_W (id := 21) (V := z3l) (B := z3m) (W := zpk zbi) (z := .inl default) (tr := z2c) (m := fun x y => ((Int.toNat x.2.1 + 1) + y.1.Args.length + y.1.Items.length)) (by kernel_rfl) (by kernel_rfl) fun R H K x y => by kernel_rfl
def zxk (zbi : List Term → Bool × Bool) (x_ : Atom) : Wy0 (Bool) := .i (x_.Kind == (0 : Int)) (.i (decide (x_.Row.Table ≥ (1 : Int))) (.i (decide (x_.Row.Seq ≥ (1 : Int))) (.i (Int.ofNat x_.Args.length == (0 : Int)) (.bn (zq3 (Atom.mk x_.Kind x_.Row x_.Args x_.Func x_.Items x_.Op x_.Bound)) fun r6 => .k r6) (.k false)) (.k false)) (.k false)) (.i (!(x_.Row.Table == (0 : Int) && (x_.Row.Seq == (0 : Int) && true))) (.k false) (.bn (zwb zbi ((Int.toNat (0 : Int) + (1 : Nat)) + (Atom.mk x_.Kind x_.Row x_.Args x_.Func x_.Items x_.Op x_.Bound).Args.length + (Atom.mk x_.Kind x_.Row x_.Args x_.Func x_.Items x_.Op x_.Bound).Items.length) (0 : Int) (Atom.mk x_.Kind x_.Row x_.Args x_.Func x_.Items x_.Op x_.Bound)) fun r17 => .i (isL r17) (.k (getL r17)) (.i ((getR r17).Kind == (1 : Int)) (.i (Int.ofNat (getR r17).Args.length == (2 : Int)) (.bn (zq3 (Atom.mk (getR r17).Kind (getR r17).Row (getR r17).Args (getR r17).Func (getR r17).Items (getR r17).Op (getR r17).Bound)) fun r8 => .i (r8) (.i (decide ((0 : Int) ≤ (0 : Int)) && decide ((0 : Int) < Int.ofNat (getR r17).Args.length)) (.i (decide ((0 : Int) ≤ (1 : Int)) && decide ((1 : Int) < Int.ofNat (getR r17).Args.length)) (.bn (zv8 ((getR r17).Args.getD (Int.toNat (0 : Int)) default) ((getR r17).Args.getD (Int.toNat (1 : Int)) default)) fun r7 => .k (!r7)) .d) .d) (.k false)) (.k false)) (.i ((getR r17).Kind == (2 : Int)) (.i (Int.ofNat (getR r17).Args.length == (1 : Int)) (.bn (zq3 (Atom.mk (getR r17).Kind (getR r17).Row (getR r17).Args (getR r17).Func (getR r17).Items (getR r17).Op (getR r17).Bound)) fun r12 => .i (r12) (.i (decide ((0 : Int) ≤ (0 : Int)) && decide ((0 : Int) < Int.ofNat (getR r17).Args.length)) (.i (Int.ofNat (List.length ((getR r17).Args.getD (Int.toNat (0 : Int)) default)) == (1 : Int)) (.i (decide ((0 : Int) ≤ (0 : Int)) && decide ((0 : Int) < Int.ofNat (getR r17).Args.length)) (.bn (zn1 ((getR r17).Args.getD (Int.toNat (0 : Int)) default)) fun r10 => .i (!r10) (.i (decide ((0 : Int) ≤ (0 : Int)) && decide ((0 : Int) < Int.ofNat (getR r17).Args.length)) (.bn (zum ((getR r17).Args.getD (Int.toNat (0 : Int)) default)) fun r9 => .k (!r9)) .d) (.k false)) .d) (.i (decide ((0 : Int) ≤ (0 : Int)) && decide ((0 : Int) < Int.ofNat (getR r17).Args.length)) (.bn (zum ((getR r17).Args.getD (Int.toNat (0 : Int)) default)) fun r11 => .k (!r11)) .d)) .d) (.k false)) (.k false)) (.i ((getR r17).Kind == (3 : Int)) (.i (Int.ofNat (getR r17).Args.length == (1 : Int)) (.bn (zq3 (Atom.mk (getR r17).Kind (getR r17).Row (getR r17).Args (getR r17).Func (getR r17).Items (getR r17).Op (getR r17).Bound)) fun r14 => .i (r14) (.i (decide ((0 : Int) ≤ (0 : Int)) && decide ((0 : Int) < Int.ofNat (getR r17).Args.length)) (.bn (zn1 ((getR r17).Args.getD (Int.toNat (0 : Int)) default)) fun r13 => .k (!r13)) .d) (.k false)) (.k false)) (.i ((getR r17).Kind == (4 : Int)) (.i (Int.ofNat (getR r17).Args.length != (0 : Int)) (.k false) (.i (Int.ofNat (getR r17).Items.length == (0 : Int)) (.k false) (.i (decide (Int.ofNat (getR r17).Items.length > (1024 : Int))) (.k false) (.bn (zxh (getR r17).Func (getR r17).Items (getR r17).Op (getR r17).Bound) fun r16 => .i (!r16) (.k false) (.bn (z3o zbi ((Int.toNat (0 : Int) + (1 : Nat)) + (Atom.mk (getR r17).Kind (getR r17).Row (getR r17).Args (getR r17).Func (getR r17).Items (getR r17).Op (getR r17).Bound).Args.length + (Atom.mk (getR r17).Kind (getR r17).Row (getR r17).Args (getR r17).Func (getR r17).Items (getR r17).Op (getR r17).Bound).Items.length) (0 : Int) (Atom.mk (getR r17).Kind (getR r17).Row (getR r17).Args (getR r17).Func (getR r17).Items (getR r17).Op (getR r17).Bound)) fun r15 => .i (isL r15) (.k (getL r15)) (.k true)))))) (.k false)))))))
def zp9 (zbi : List Term → Bool × Bool) (x_ : Atom) : Bool × Bool := (zxk zbi x_).fin default
theorem zbfo (zbi : List Term → Bool × Bool) (zbox : Sound Tryz.prog base 46 (zwn zbi)) : Sound Tryz.prog base 103 (zqd (zp9 zbi)) :=
  sound_W (cx' := (zv5 zbi)) draws base_ok mkSame (mkSpecs ⟨(zbd1), (zr1), (zbox), (zblg), (zbjl), (zbbt), (zbm0), trivial⟩) Tryz.call103 Tryz.func103 (c := body Tryz.f103) (by kernel_rfl) (loopsOK_of (l := [lp (body Tryz.f103) 0, lp (body Tryz.f103) 1]) (by kernel_rfl) ⟨zbh7 zbi, zbg7 zbi, trivial⟩) (sg := ⟨[.pure], []⟩) (A := zbb0) (res := z7e) (W := fun x => zxk zbi x.1) (z := default) (fun x => by kernel_rfl) (fun _ => by kernel_rfl)
def zbcx : Nat → (List Term → Bool × Bool) × (Atom → Bool × Bool)
  | 0 => (fun _ => (false, default), fun _ => (false, default))
  | n + 1 => (zw7 ((zbcx n).2), zp9 ((zbcx n).1))
def zwu (n : Nat) : List Term → Bool × Bool := (zbcx n).1
def zp7 (n : Nat) : Atom → Bool × Bool := (zbcx n).2
theorem zbnq (n : Nat) : zwu (n + 1) = zw7 (zp7 n) := rfl
theorem zbi4 (n : Nat) : zp7 (n + 1) = zp9 (zwu n) := rfl
theorem zbdk : ∀ n, Sound Tryz.prog base 46 (zwn (zwu n)) ∧ Sound Tryz.prog base 103 (zqd (zp7 n))
  | 0 => ⟨sound_false Tryz.call46 (fun _ => rfl), sound_false Tryz.call103 (fun _ => rfl)⟩
  | n + 1 => by
    have ih := zbdk n
    exact ⟨zbku _ (ih.2), zbfo _ (ih.1)⟩
def zbhe : List Term → Bool × Bool := zwu 1000
def zbd4 : Ab.Spec ty := zwn zbhe
theorem zbmt : Sound Tryz.prog base 46 zbd4 := (zbdk 1000).1
def zbov : Atom → Bool × Bool := zp7 1000
def zbjc : Ab.Spec ty := zqd zbov
theorem zbre : Sound Tryz.prog base 103 zbjc := (zbdk 1000).2
def zbp7 : Cx ty := mkCx base 8 [] [] [] [] [] []
def zbe0 (x_ : Atom) : Wy0 (List Term) := .k [TermOf.mk (1 : Int) [FactorOf.mk (Atom.mk x_.Kind x_.Row x_.Args x_.Func x_.Items x_.Op x_.Bound) (1 : Int)]]
def z4j (x_ : Atom) : Bool × List Term := (zbe0 x_).fin default
def zbim (r : List Term) : ARes ty := ⟨[.own 42 r], []⟩
def zbmb : AL base (Atom × Unit) := aCons (aPure (vAgg 48)) aNil
def zbf7 : Ab.Spec ty := mkSpec zbmb fun x => ((z4j x.1).1, zbim (z4j x.1).2)
theorem zbnw : Sound Tryz.prog base 63 zbf7 :=
  sound_W (cx' := zbp7) draws base_ok mkSame (mkSpecs trivial) Tryz.call63 Tryz.func63 (c := body Tryz.f63) (by kernel_rfl) (loopsOK_of (l := []) (by kernel_rfl) trivial) (sg := ⟨[.own 42], []⟩) (A := zbmb) (res := zbim) (W := fun x => zbe0 x.1) (z := default) (fun x => by kernel_rfl) (fun _ => by kernel_rfl)
def zbnh : Cx ty := mkCx base 30 [] [] [] [] [] []
def z40 (op : Int) (sign : Int) : Wy0 (Bool) := .i (op == (5 : Int)) (.k (sign == (0 : Int))) (.i (op == (6 : Int)) (.k (sign != (0 : Int))) (.i (op == (7 : Int)) (.k (decide (sign < (0 : Int)))) (.i (op == (8 : Int)) (.k (decide (sign ≤ (0 : Int)))) (.i (op == (9 : Int)) (.k (decide (sign > (0 : Int)))) (.i (op == (10 : Int)) (.k (decide (sign ≥ (0 : Int)))) (.k false))))))
def zwl (op : Int) (sign : Int) : Bool × Bool := (z40 op sign).fin default
def zbcg (r : Bool) : ARes ty := ⟨[.pure (.lit (.bool r))], []⟩
def zbgt : AL base (Int × Int × Unit) := aCons (aPure (vInt .i64)) (aCons (aPure (vInt .i64)) aNil)
def z9b : Ab.Spec ty := mkSpec zbgt fun x => ((zwl x.1 x.2.1).1, zbcg (zwl x.1 x.2.1).2)
theorem zbk1 : Sound Tryz.prog base 81 z9b :=
  sound_W (cx' := zbnh) draws base_ok mkSame (mkSpecs trivial) Tryz.call81 Tryz.func81 (c := body Tryz.f81) (by kernel_rfl) (loopsOK_of (l := []) (by kernel_rfl) trivial) (sg := ⟨[.pure], []⟩) (A := zbgt) (res := zbcg) (W := fun x => z40 x.1 x.2.1) (z := default) (fun x => by kernel_rfl) (fun _ => by kernel_rfl)
def zbqu : Cx ty := mkCx base 3 [] [] [] [] [] []
def zbng : Wy0 (List Term) := .k [TermOf.mk (1 : Int) []]
def zbmj : Bool × List Term := (zbng).fin default
def zbkm (r : List Term) : ARes ty := ⟨[.own 42 r], []⟩
def zbnd : AL base (Unit) := aNil
def zbig : Ab.Spec ty := mkSpec zbnd fun x => ((zbmj ).1, zbkm (zbmj ).2)
theorem zbod : Sound Tryz.prog base 30 zbig :=
  sound_W (cx' := zbqu) draws base_ok mkSame (mkSpecs trivial) Tryz.call30 Tryz.func30 (c := body Tryz.f30) (by kernel_rfl) (loopsOK_of (l := []) (by kernel_rfl) trivial) (sg := ⟨[.own 42], []⟩) (A := zbnd) (res := zbkm) (W := fun x => zbng ) (z := default) (fun x => by kernel_rfl) (fun _ => by kernel_rfl)
def zbqv : Cx ty := mkCx base 8 [(102, z4u)] [] [] [] [] []
def zbgx (a : List Term) : Wy0 (List Term × Int) := .bn (zz4 a) fun r0 => .i (!r0) (.k ([], (6 : Int))) (.k (a, (0 : Int)))
def z82 (a : List Term) : Bool × (List Term × Int) := (zbgx a).fin default
def zbjw (r : List Term × Int) : ARes ty := ⟨[.pure (.sl 42 r.1), .pure (.lit (.int .i64 r.2))], []⟩
def zbm3 : AL base (List Term × Unit) := aCons (aPure (vSl 42)) aNil
def zbif : Ab.Spec ty := mkSpec zbm3 fun x => ((z82 x.1).1, zbjw (z82 x.1).2)
theorem zbop : Sound Tryz.prog base 56 zbif :=
  sound_W (cx' := zbqv) draws base_ok mkSame (mkSpecs ⟨(zbd6), trivial⟩) Tryz.call56 Tryz.func56 (c := body Tryz.f56) (by kernel_rfl) (loopsOK_of (l := []) (by kernel_rfl) trivial) (sg := ⟨[.pure, .pure], []⟩) (A := zbm3) (res := zbjw) (W := fun x => zbgx x.1) (z := default) (fun x => by kernel_rfl) (fun _ => by kernel_rfl)
def zxd (fn : Int) (items : List Weighted) (op : Int) (i : Int) (bound : Value) : Wy (Int × List Weighted × Int × Unit × Int × Unit) (Value × Unit) (Int ⊕ (Int × List Weighted × Int × Value)) := .i (decide (i < Int.ofNat items.length)) (.i (decide ((0 : Int) ≤ i) && decide (i < Int.ofNat items.length)) (.bn (zbhe (items.getD i.toNat default).Ann) fun r0 => .i (!r0) (.k (.inl (1 : Int))) (.h (fn, items, op, (), (IntKind.i64.wrap (i + (1 : Int))), ()) (bound, ()))) .d) (.k (.inr (fn, items, op, bound)))
def z2y (x : Int × List Weighted × Int × Unit × Int × Unit) (y : Value × Unit) : Wy (Int × List Weighted × Int × Unit × Int × Unit) (Value × Unit) (Int ⊕ (Int × List Weighted × Int × Value)) := zxd x.1 x.2.1 x.2.2.1 x.2.2.2.2.1 y.1
def zbj9 (n : Nat) (fn : Int) (items : List Weighted) (op : Int) (i : Int) (bound : Value) : Bool × (Int ⊕ (Int × List Weighted × Int × Value)) := iterW (z2y) (.inl default) n (fn, items, op, (), i, ()) (bound, ())
def zbh6 (r : Int ⊕ (Int × List Weighted × Int × Value)) : LTree ty := .ite (isL r) (.done .ret [.lit (.slice none 0 0), .lit (.int .i64 (getL r))] []) (.done (.exit 0) [.lit (.int .i64 ((getR r).1)), .sl 52 ((getR r).2.1), .lit (.int .i64 ((getR r).2.2.1)), .ptr 220 0] [.box (base.enc 46 ((getR r).2.2.2)) false])
def zbkk : LL ty (Int × List Weighted × Int × Unit × Int × Unit) := llCons (lInt .i64) (llCons (lSl 52) (llCons (lInt .i64) (llCons (lPtrC 220 0) (llCons (lInt .i64) llNil))))
def zbj5 : BL ty (Value × Unit) := bBox (llMap (fun x => (⟨x.1, x.2.1, x.2.2.1⟩ : Value)) (fun x => (x.Kind, x.Int, x.Text, ())) (fun _ => rfl) (llCons (lInt .i64) (llCons (lInt .i64) (llCons lStr llNil)))) false (bNil)
def zbkp : Cx ty := mkCx base 55 [(30, zbig), (37, z27), (46, zbd4), (56, zbif), (63, zbf7), (80, z23), (81, z9b), (82, zkc)] [] [(4, [(0, .keep), (1, .keep), (2, .keep), (7, .keep), (10, .keep)])] [(4, 1, [(0, .keep), (1, .keep), (2, .keep), (7, .keep)]), (4, 0, [(8, .keep), (9, .keep)])] [(4, spW zbkk zbj5 (z2y) (.inl default) zbh6 fun x y => (Int.toNat x.1 + x.2.1.length + Int.toNat x.2.2.1 + Int.toNat x.2.2.2.2.1 + 1))] []
theorem zbo6 : LoopOK zbkp (lp (body Tryz.f34) 0) := loopOK_W (id := 4) (V := zbkk) (B := zbj5) (W := z2y) (z := .inl default) (tr := zbh6) (m := fun x y => (Int.toNat x.1 + x.2.1.length + Int.toNat x.2.2.1 + Int.toNat x.2.2.2.2.1 + 1)) (by kernel_rfl) (by kernel_rfl) fun R H K x y => by kernel_rfl
def zbeh (fn : Int) (items : List Weighted) (op : Int) (bound : Value) : Wy0 (List Term × Int) := .bn (zxh fn items op bound) fun r7 => .i (!r7) (.k ([], (1 : Int))) (.bn (zbj9 (fn.toNat + items.length + op.toNat + Int.toNat (0 : Int) + (1 : Nat)) fn items op (0 : Int) bound) fun r6 => .i (isL r6) (.k ([], getL r6)) (.bn (zxi (getR r6).snd.fst) fun r5 => .i (Int.ofNat r5.length == (0 : Int)) (.i ((getR r6).fst == (0 : Int)) (.bn (zcz (0 : Int) (getR r6).snd.snd.snd.Int) fun r3 => .bn (zwl (getR r6).snd.snd.fst r3) fun r2 => .i (r2) (.k (zbmj.snd, (0 : Int))) (.k ([], (0 : Int)))) (.k ([], (0 : Int)))) (.bn (z82 (z4j (Atom.mk (4 : Int) (RowID.mk (0 : Int) (0 : Int)) [] (getR r6).fst r5 (getR r6).snd.snd.fst (getR r6).snd.snd.snd)).snd) fun r4 => .k (r4.fst, r4.snd))))
def z4t (fn : Int) (items : List Weighted) (op : Int) (bound : Value) : Bool × (List Term × Int) := (zbeh fn items op bound).fin default
def zbhp (r : List Term × Int) : ARes ty := ⟨[.pure (.sl 42 r.1), .pure (.lit (.int .i64 r.2))], []⟩
def zbln : AL base (Int × List Weighted × Int × Value × Unit) := aCons (aPure (vInt .i64)) (aCons (aPure (vSl 52)) (aCons (aPure (vInt .i64)) (aCons (aPure (vAgg 46)) aNil)))
def zbfw : Ab.Spec ty := mkSpec zbln fun x => ((z4t x.1 x.2.1 x.2.2.1 x.2.2.2.1).1, zbhp (z4t x.1 x.2.1 x.2.2.1 x.2.2.2.1).2)
theorem zbno : Sound Tryz.prog base 34 zbfw :=
  sound_W (cx' := zbkp) draws base_ok mkSame (mkSpecs ⟨(zbod), (zbb6), (zbmt), (zbop), (zbnw), (zbbt), (zbk1), (zln), trivial⟩) Tryz.call34 Tryz.func34 (c := body Tryz.f34) (by kernel_rfl) (loopsOK_of (l := [lp (body Tryz.f34) 0]) (by kernel_rfl) ⟨zbo6, trivial⟩) (sg := ⟨[.pure, .pure], []⟩) (A := zbln) (res := zbhp) (W := fun x => zbeh x.1 x.2.1 x.2.2.1 x.2.2.2.1) (z := default) (fun x => by kernel_rfl) (fun _ => by kernel_rfl)
def zrk (fn : Int) (items : List Weighted) (op : Int) (i : Int) (bound : Value) : Wy (Int × List Weighted × Int × Unit × Int × Unit) (Value × Unit) (Bool ⊕ (Int × List Weighted × Int × Value)) := .i (decide (i < Int.ofNat items.length)) (.i (decide ((0 : Int) ≤ i) && decide (i < Int.ofNat items.length)) (.bn (z38 (30 : Int) [(items.getD i.toNat default).Ann]) fun r0 => .i (!r0) (.k (.inl true)) (.i (decide ((0 : Int) ≤ i) && decide (i < Int.ofNat items.length)) (.i (decide (Int.ofNat (items.getD i.toNat default).Value.Text.size > (300 : Int))) (.k (.inl true)) (.h (fn, items, op, (), (IntKind.i64.wrap (i + (1 : Int))), ()) (bound, ()))) .d)) .d) (.k (.inr (fn, items, op, bound)))
def zrv (x : Int × List Weighted × Int × Unit × Int × Unit) (y : Value × Unit) : Wy (Int × List Weighted × Int × Unit × Int × Unit) (Value × Unit) (Bool ⊕ (Int × List Weighted × Int × Value)) := zrk x.1 x.2.1 x.2.2.1 x.2.2.2.2.1 y.1
def zrj (n : Nat) (fn : Int) (items : List Weighted) (op : Int) (i : Int) (bound : Value) : Bool × (Bool ⊕ (Int × List Weighted × Int × Value)) := iterW (zrv) (.inl default) n (fn, items, op, (), i, ()) (bound, ())
def zye (r : Bool ⊕ (Int × List Weighted × Int × Value)) : LTree ty := .ite (isL r) (.done .ret [.lit (.bool (getL r))] []) (.done (.exit 0) [.lit (.int .i64 ((getR r).1)), .sl 52 ((getR r).2.1), .lit (.int .i64 ((getR r).2.2.1)), .ptr 312 0] [.box (base.enc 46 ((getR r).2.2.2)) false])
def zz1 : LL ty (Int × List Weighted × Int × Unit × Int × Unit) := llCons (lInt .i64) (llCons (lSl 52) (llCons (lInt .i64) (llCons (lPtrC 312 0) (llCons (lInt .i64) llNil))))
def zzc : BL ty (Value × Unit) := bBox (llMap (fun x => (⟨x.1, x.2.1, x.2.2.1⟩ : Value)) (fun x => (x.Kind, x.Int, x.Text, ())) (fun _ => rfl) (llCons (lInt .i64) (llCons (lInt .i64) (llCons lStr llNil)))) false (bNil)
def zy8 : Cx ty := mkCx base0 78 [(11, zbdp), (12, zbi2), (15, zbf2), (33, zwg), (34, zbfw), (35, zni), (36, zu3), (37, z27)] [] [(6, [(0, .keep), (1, .keep), (2, .keep), (7, .keep), (9, .keep)])] [(6, 1, [(0, .keep), (1, .keep), (2, .keep), (7, .keep)]), (6, 0, [(8, .keep)])] [(6, spW zz1 zzc (zrv) (.inl default) zye fun x y => (Int.toNat x.1 + x.2.1.length + Int.toNat x.2.2.1 + Int.toNat x.2.2.2.2.1 + 1))] []
theorem zbc9 : LoopOK zy8 (lp (body Tryz.f6) 0) := loopOK_W (id := 6) (V := zz1) (B := zzc) (W := zrv) (z := .inl default) (tr := zye) (m := fun x y => (Int.toNat x.1 + x.2.1.length + Int.toNat x.2.2.1 + Int.toNat x.2.2.2.2.1 + 1)) (by kernel_rfl) (by kernel_rfl) fun R H K x y => by kernel_rfl
def zsq (fn : Int) (items : List Weighted) (op : Int) (bound : Value) : Wy0 (Bool) := .i (decide (Int.ofNat items.length > (5 : Int))) (.k true) (.i (decide (Int.ofNat bound.Text.size > (300 : Int))) (.k true) (.bn (zrj (fn.toNat + items.length + op.toNat + Int.toNat (0 : Int) + (1 : Nat)) fn items op (0 : Int) bound) fun r8 => .i (isL r8) (.k (getL r8)) (.bn (zph (getR r8).fst (getR r8).snd.fst (getR r8).snd.snd.fst (getR r8).snd.snd.snd) fun r7 => .bn (z4t (getR r8).fst (getR r8).snd.fst (getR r8).snd.snd.fst (getR r8).snd.snd.snd) fun r6 => .bn (zny (getR r8).snd.fst) fun r5 => .bn (zxi (getR r8).snd.fst) fun r4 => .bn (zot r5 r4) fun r3 => .i (r3 == (0 : Int)) (.bn (z5r r7.fst r7.snd r6.fst r6.snd) fun r2 => .k r2) (.k false))))
def zh7 (fn : Int) (items : List Weighted) (op : Int) (bound : Value) : Bool × Bool := (zsq fn items op bound).fin default
def zqk (r : Bool) : ARes ty := ⟨[.pure (.lit (.bool r))], []⟩
def z0w : AL base0 (Int × List Weighted × Int × Value × Unit) := aCons (aPure (vInt .i64)) (aCons (aPure (vSl 52)) (aCons (aPure (vInt .i64)) (aCons (aPure (vAgg 46)) aNil)))
def zpp : Ab.Spec ty := mkSpec z0w fun x => ((zh7 x.1 x.2.1 x.2.2.1 x.2.2.2.1).1, zqk (zh7 x.1 x.2.1 x.2.2.1 x.2.2.2.1).2)
theorem z9j : Sound Tryz.prog base0 6 zpp :=
  sound_W (cx' := zy8) draws zlb mkSame (mkSpecs ⟨(zbmx), (zbob.nodr), (zbns.nodr), (z32.nodr), (zbno.nodr), (zr1.nodr), (z1t.nodr), (zbb6.nodr), trivial⟩) Tryz.call6 Tryz.func6 (c := body Tryz.f6) (by kernel_rfl) (loopsOK_of (l := [lp (body Tryz.f6) 0]) (by kernel_rfl) ⟨zbc9, trivial⟩) (sg := ⟨[.pure], []⟩) (A := z0w) (res := zqk) (W := fun x => zsq x.1 x.2.1 x.2.2.1 x.2.2.2.1) (z := default) (fun x => by kernel_rfl) (fun _ => by kernel_rfl)

def trV (v : Value) : TT := .l [.i v.Kind, .i v.Int, trB v.Text]
mutual
def trAtom : Atom → TT
  | ⟨k, r, a, f, i, o, b⟩ => .l [.i k, .i r.Table, .i r.Seq, .l (trAnns a), .i f, .l (trItems i), .i o, trV b]
def zrf : Factor → TT
  | ⟨x, e⟩ => .l [trAtom x, .i e]
def zco : List Factor → List TT
  | [] => []
  | x :: r => zrf x :: zco r
def trTerm : Term → TT
  | ⟨c, fs⟩ => .l [.l (zco fs), .i c]
def trAnn : List Term → List TT
  | [] => []
  | x :: r => trTerm x :: trAnn r
def trAnns : List (List Term) → List TT
  | [] => []
  | x :: r => .l (trAnn x) :: trAnns r
def trItem : Weighted → TT
  | ⟨v, a⟩ => .l [trV v, .l (trAnn a)]
def trItems : List Weighted → List TT
  | [] => []
  | x :: r => trItem x :: trItems r
end
theorem zwz : ∀ l, zco l = l.map zrf
  | [] => by rw [zco]; rfl
  | x :: r => by rw [zco, zwz r]; rfl
theorem z85 : ∀ l, trAnn l = l.map trTerm
  | [] => by rw [trAnn]; rfl
  | x :: r => by rw [trAnn, z85 r]; rfl
theorem z47 : ∀ l, trAnns l = l.map fun x => .l (trAnn x)
  | [] => by rw [trAnns]; rfl
  | x :: r => by rw [trAnns, z47 r]; rfl
theorem zoa : ∀ l, trItems l = l.map trItem
  | [] => by rw [trItems]; rfl
  | x :: r => by rw [trItems, zoa r]; rfl
theorem zbbm : ∀ a b : List UInt8, (a.map fun x => TT.i (x.toNat : Int)) = (b.map fun x => TT.i (x.toNat : Int)) → a = b
  | [], [] => fun _ => rfl
  | [], _ :: _ => fun h => by simp at h
  | _ :: _, [] => fun h => by simp at h
  | x :: a, y :: b => fun h => by
    simp only [List.map, List.cons.injEq, TT.i.injEq] at h
    rw [zbbm a b h.2, UInt8.toNat_inj.1 (Int.ofNat.inj h.1)]
theorem trV_inj {a b : Value} (h : trV a = trV b) : a = b := by
  obtain ⟨k, n, s⟩ := a; obtain ⟨k', n', s'⟩ := b
  simp only [trV, trB, TT.l.injEq, List.cons.injEq, TT.i.injEq, and_true] at h
  obtain ⟨rfl, rfl, h⟩ := h
  have := zbbm _ _ h
  obtain ⟨⟨l⟩⟩ := s; obtain ⟨⟨l'⟩⟩ := s'
  simp only at this; subst this; rfl
mutual
theorem zbrx : ∀ a b : Atom, trAtom a = trAtom b → a = b
  | ⟨k, r, a, f, i, o, v⟩, ⟨k', r', a', f', i', o', v'⟩ => fun h => by
    simp only [trAtom, TT.l.injEq, List.cons.injEq, TT.i.injEq, and_true] at h
    obtain ⟨rfl, h1, h2, h3, rfl, h4, rfl, h5⟩ := h
    obtain ⟨t, s⟩ := r; obtain ⟨t', s'⟩ := r'
    simp only at h1 h2; subst h1 h2
    rw [zbow a a' h3, zbm7 i i' h4, trV_inj h5]
theorem zbqg : ∀ a b : Factor, zrf a = zrf b → a = b
  | ⟨x, e⟩, ⟨x', e'⟩ => fun h => by
    simp only [zrf, TT.l.injEq, List.cons.injEq, TT.i.injEq, and_true] at h
    rw [zbrx x x' h.1, h.2]
theorem zbjv : ∀ a b : List Factor, zco a = zco b → a = b
  | [], [] => fun _ => rfl
  | [], _ :: _ => fun h => by simp [zco] at h
  | _ :: _, [] => fun h => by simp [zco] at h
  | x :: a, y :: b => fun h => by
    simp only [zco, List.cons.injEq] at h
    rw [zbqg x y h.1, zbjv a b h.2]
theorem zbry : ∀ a b : Term, trTerm a = trTerm b → a = b
  | ⟨c, l⟩, ⟨c', l'⟩ => fun h => by
    simp only [trTerm, TT.l.injEq, List.cons.injEq, TT.i.injEq, and_true] at h
    rw [zbjv l l' h.1, h.2]
theorem z87 : ∀ a b : List Term, trAnn a = trAnn b → a = b
  | [], [] => fun _ => rfl
  | [], _ :: _ => fun h => by simp [trAnn] at h
  | _ :: _, [] => fun h => by simp [trAnn] at h
  | x :: a, y :: b => fun h => by
    simp only [trAnn, List.cons.injEq] at h
    rw [zbry x y h.1, z87 a b h.2]
theorem zbow : ∀ a b : List (List Term), trAnns a = trAnns b → a = b
  | [], [] => fun _ => rfl
  | [], _ :: _ => fun h => by simp [trAnns] at h
  | _ :: _, [] => fun h => by simp [trAnns] at h
  | x :: a, y :: b => fun h => by
    simp only [trAnns, List.cons.injEq, TT.l.injEq] at h
    rw [z87 x y h.1, zbow a b h.2]
theorem zbn9 : ∀ a b : Weighted, trItem a = trItem b → a = b
  | ⟨c, l⟩, ⟨c', l'⟩ => fun h => by
    simp only [trItem, TT.l.injEq, List.cons.injEq, and_true] at h
    rw [trV_inj h.1, z87 l l' h.2]
theorem zbm7 : ∀ a b : List Weighted, trItems a = trItems b → a = b
  | [], [] => fun _ => rfl
  | [], _ :: _ => fun h => by simp [trItems] at h
  | _ :: _, [] => fun h => by simp [trItems] at h
  | x :: a, y :: b => fun h => by
    simp only [trItems, List.cons.injEq] at h
    rw [zbn9 x y h.1, zbm7 a b h.2]
end

def zg9 (P : List Term → Prop) (x : Atom) : Prop :=
  (x.Args.length ≤ 1000000 ∧ x.Items.length ≤ 1000000 ∧ x.Bound.Text.size ≤ 1000000000000) ∧ (∀ a ∈ x.Args, P a) ∧ ∀ w ∈ x.Items, w.Value.Text.size ≤ 1000000000000 ∧ P w.Ann
def zku (P : List Term → Prop) (l : List Factor) : Prop := l.length ≤ 1000000 ∧ ∀ f ∈ l, zg9 P f.Atom
def fineAnn : Nat → List Term → Prop
  | 0, _ => False
  | n + 1, a => a.length ≤ 1000000 ∧ ∀ t ∈ a, zku (fineAnn n) t.Factors
theorem zg9.imp {P Q : List Term → Prop} (h : ∀ a, P a → Q a) {x : Atom} (hx : zg9 P x) : zg9 Q x := ⟨hx.1, fun a ha => h a (hx.2.1 a ha), fun w hw => ⟨(hx.2.2 w hw).1, h _ (hx.2.2 w hw).2⟩⟩
theorem fineAnn.succ : ∀ (n : Nat) (a : List Term), fineAnn n a → fineAnn (n + 1) a
  | 0, _, h => h.elim
  | n + 1, a, h => ⟨h.1, fun t ht => ⟨(h.2 t ht).1, fun f hf => ((h.2 t ht).2 f hf).imp (fineAnn.succ n)⟩⟩
theorem fineAnn.mono {n m : Nat} {a : List Term} (h : fineAnn n a) (hm : n ≤ m) : fineAnn m a := by
  obtain ⟨k, rfl⟩ := Nat.exists_eq_add_of_le hm
  clear hm
  induction k with
  | zero => exact h
  | succ k ih => exact fineAnn.succ _ _ ih

theorem zbkb : ∀ {l : List Factor}, zsy l → ∀ x ∈ l, zy1 x
  | [], _, x, hx => by cases hx
  | y :: r, h, x, hx => by
    unfold zsy at h
    rcases List.mem_cons.1 hx with rfl | hx
    · exact h.1
    · exact zbkb h.2 x hx
theorem zbl1 : ∀ {l : List Term}, wfAnn l → ∀ x ∈ l, wfTerm x
  | [], _, x, hx => by cases hx
  | y :: r, h, x, hx => by
    unfold wfAnn at h
    rcases List.mem_cons.1 hx with rfl | hx
    · exact h.1
    · exact zbl1 h.2 x hx
theorem zboi : ∀ {l : List (List Term)}, wfAnns l → ∀ x ∈ l, wfAnn x ∧ x.length ≤ roomLen
  | [], _, x, hx => by cases hx
  | y :: r, h, x, hx => by
    unfold wfAnns at h
    rcases List.mem_cons.1 hx with rfl | hx
    · exact h.1
    · exact zboi h.2 x hx
theorem z8s : ∀ {l : List Weighted}, wfItems l → ∀ x ∈ l, wf46 x.Value ∧ wfAnn x.Ann ∧ x.Ann.length ≤ roomLen
  | [], _, x, hx => by cases hx
  | y :: r, h, x, hx => by
    unfold wfItems at h
    rcases List.mem_cons.1 hx with rfl | hx
    · have := h.1; unfold wfItem at this; exact ⟨this.1, this.2.1, this.2.2⟩
    · exact z8s h.2 x hx
theorem zbon {t : Term} (h : wfTerm t) : wf2 t.Coeff ∧ zsy t.Factors ∧ t.Factors.length ≤ roomLen := by
  unfold wfTerm at h; exact ⟨h.1, h.2.1, h.2.2⟩
theorem zbql {t : Factor} (h : zy1 t) : wfAtom t.Atom ∧ wf3 t.Exp := by
  unfold zy1 at h; exact h
theorem zbrm {x : Atom} (h : wfAtom x) : (wfAnns x.Args ∧ x.Args.length ≤ roomLen) ∧ (wfItems x.Items ∧ x.Items.length ≤ roomLen) ∧ wf46 x.Bound ∧ wf3 x.Kind ∧ wf25 x.Row ∧ wf3 x.Func ∧ wf3 x.Op := by
  obtain ⟨k, r, a, f, i, o, b⟩ := x; unfold wfAtom at h; exact ⟨h.2.2.1, h.2.2.2.2.1, h.2.2.2.2.2.2, h.1, h.2.1, h.2.2.2.1, h.2.2.2.2.2.1⟩
theorem zbsv {n : Nat} (h : n < 4611686018427387904) : IntKind.i64.wrap (n : Int) = n := wrap_id (by omega) (by omega)
theorem wrap_of {z : Int} (h0 : -4611686018427387904 ≤ z) (h : z < 4611686018427387904) : IntKind.i64.wrap z = z := wrap_id (by omega) (by omega)

mutual
def totAtom : Atom → Nat
  | ⟨_, _, a, _, i, _, b⟩ => i.length + a.length + b.Text.size + totAnns a + zpy i
def zk8 : List Factor → Nat
  | [] => 0
  | ⟨x, _⟩ :: r => totAtom x + zk8 r
def totAnn : List Term → Nat
  | [] => 0
  | ⟨_, fs⟩ :: r => 1 + fs.length + zk8 fs + totAnn r
def totAnns : List (List Term) → Nat
  | [] => 0
  | a :: r => totAnn a + totAnns r
def zpy : List Weighted → Nat
  | [] => 0
  | ⟨v, a⟩ :: r => v.Text.size + totAnn a + zpy r
end
theorem zbrj (x : Atom) : totAtom x = x.Items.length + x.Args.length + x.Bound.Text.size + totAnns x.Args + zpy x.Items := by cases x; rw [totAtom]
theorem zbor (f : Factor) (r : List Factor) : zk8 (f :: r) = totAtom f.Atom + zk8 r := by cases f; rw [zk8]
theorem zbrb (t : Term) (r : List Term) : totAnn (t :: r) = 1 + t.Factors.length + zk8 t.Factors + totAnn r := by cases t; rw [totAnn]
theorem zbqo (a : List Term) (r : List (List Term)) : totAnns (a :: r) = totAnn a + totAnns r := by rw [totAnns]
theorem zbqb (w : Weighted) (r : List Weighted) : zpy (w :: r) = w.Value.Text.size + totAnn w.Ann + zpy r := by cases w; rw [zpy]
theorem zbq2 : totAnns [] = 0 := by rw [totAnns]
theorem zbqm : zpy [] = 0 := by rw [zpy]
theorem zbpf : zk8 [] = 0 := by rw [zk8]
theorem zbrg : totAnn [] = 0 := by rw [totAnn]

section
variable (g : List Term → Int → Int → Bool × Int) (a : List Term) (limit d : Nat) (hl : limit ≤ 1000) (hd : d ≤ 100) (B : Nat) (hB : B ≤ 1152921504606846976) (P : List Term → Prop)
include hl hd hB
theorem w14 (x : Atom) (i k : Int) (hlen : x.Args.length ≤ roomLen) (hg : ∀ y ∈ x.Args, ∀ l : Nat, l ≤ 1000 → ∃ w : Nat, g y l d = (true, (w : Int)) ∧ w ≤ B ∧ (w ≤ l → P y ∧ totAnn y ≤ w)) :
    ∀ (fuel j n : Nat), x.Args.length < j + fuel → j ≤ x.Args.length → n ≤ 2305843009213693952 → ∃ n' : Nat, zzz g fuel a limit (d + 1 : Nat) n i k j x = (true, (a, (limit : Int), ((d + 1 : Nat) : Int), (n' : Int), i, k, x)) ∧ n ≤ n' ∧ n' ≤ max n (limit + B) ∧ (n' ≤ limit → (∀ y ∈ x.Args.drop j, P y) ∧ n + totAnns (x.Args.drop j) ≤ n')
  | 0, j, n, h1, h2, h3 => by omega
  | fuel + 1, j, n, h1, h2, h3 => by
    show ∃ n' : Nat, (zzp g a limit (d + 1 : Nat) n i k j x).ev (fun x y => zzz g fuel x.1 x.2.1 x.2.2.1 x.2.2.2.1 x.2.2.2.2.1 x.2.2.2.2.2.1 x.2.2.2.2.2.2.2.1 y.1) (fun r => (true, r)) (false, default) = _ ∧ _
    unfold zzp
    have hml : roomLen = 140737488351232 := rfl
    by_cases hj : j < x.Args.length
    · by_cases hn : n ≤ limit
      · have e1 : IntKind.i64.wrap ((limit : Int) - (n : Int)) = ((limit - n : Nat) : Int) := by rw [wrap_of (by omega) (by omega)]; omega
        obtain ⟨w, hw, hwB, hwP⟩ := hg _ (getD_mem hj) (limit - n) (by omega)
        have ed : IntKind.i64.wrap (((d + 1 : Nat) : Int) - 1) = (d : Int) := by rw [wrap_of (by omega) (by omega)]; omega
        simp only [Wy.ev_i, Wy.ev_k, Wy.ev_h, Wy.ev_bn, Wy.ev_d, Int.ofNat_eq_natCast, lt_nat, le0_nat, decide_true, decide_false, Bool.and_self, Bool.true_and, Bool.and_true, Bool.and_false, Bool.false_and, cond_true, cond_false, Int.toNat_natCast, Bool.not_true, Bool.not_false, hj, le_nat, hn, e1, ed, hw]
        have e3 : IntKind.i64.wrap ((n : Int) + (w : Int)) = ((n + w : Nat) : Int) := by rw [wrap_of (by omega) (by omega)]; omega
        rw [e3, wrap_succ (by omega)]
        obtain ⟨n', h4, h5, h6, h7⟩ := w14 x i k hlen hg fuel (j + 1) (n + w) (by omega) (by omega) (by omega)
        refine ⟨n', h4, by omega, by omega, fun hn' => ?_⟩
        obtain ⟨h8, h9⟩ := h7 hn'
        obtain ⟨p1, p2⟩ := hwP (by omega)
        rw [drop_lt hj, zbqo]
        refine ⟨fun y hy => ?_, by omega⟩
        rcases List.mem_cons.1 hy with rfl | hy
        · exact p1
        · exact h8 y hy
      · simp only [Wy.ev_i, Wy.ev_k, Wy.ev_h, Wy.ev_bn, Wy.ev_d, Int.ofNat_eq_natCast, lt_nat, le0_nat, decide_true, decide_false, Bool.and_self, Bool.true_and, Bool.and_true, Bool.and_false, Bool.false_and, cond_true, cond_false, Int.toNat_natCast, Bool.not_true, Bool.not_false, hj, le_nat, hn]
        exact ⟨n, rfl, Nat.le_refl _, by omega, fun h => absurd h hn⟩
    · simp only [Wy.ev_i, Wy.ev_k, Wy.ev_h, Wy.ev_bn, Wy.ev_d, Int.ofNat_eq_natCast, lt_nat, le0_nat, decide_true, decide_false, Bool.and_self, Bool.true_and, Bool.and_true, Bool.and_false, Bool.false_and, cond_true, cond_false, Int.toNat_natCast, Bool.not_true, Bool.not_false, hj]
      exact ⟨n, rfl, Nat.le_refl _, by omega, fun _ => by rw [drop_ge hj, zbq2]; exact ⟨fun y hy => (by cases hy), Nat.le_refl _⟩⟩
theorem w18 (x : Atom) (i k : Int) (hlen : x.Items.length ≤ roomLen) (hg : ∀ y ∈ x.Items, y.Value.Text.size ≤ roomLen ∧ ∀ l : Nat, l ≤ 1000 → ∃ w : Nat, g y.Ann l d = (true, (w : Int)) ∧ w ≤ B ∧ (w ≤ l → P y.Ann ∧ totAnn y.Ann ≤ w)) :
    ∀ (fuel j n : Nat), x.Items.length < j + fuel → j ≤ x.Items.length → n ≤ 2305843009213693952 → ∃ n' : Nat, zyv g fuel a limit (d + 1 : Nat) n i k j x = (true, (a, (limit : Int), ((d + 1 : Nat) : Int), (n' : Int), i, k)) ∧ n ≤ n' ∧ n' ≤ max n (limit + roomLen + B) ∧ (n' ≤ limit → (∀ y ∈ x.Items.drop j, y.Value.Text.size ≤ 1000 ∧ P y.Ann) ∧ n + zpy (x.Items.drop j) ≤ n')
  | 0, j, n, h1, h2, h3 => by omega
  | fuel + 1, j, n, h1, h2, h3 => by
    show ∃ n' : Nat, (zzk g a limit (d + 1 : Nat) n i k j x).ev (fun x y => zyv g fuel x.1 x.2.1 x.2.2.1 x.2.2.2.1 x.2.2.2.2.1 x.2.2.2.2.2.1 x.2.2.2.2.2.2.2.1 y.1) (fun r => (true, r)) (false, default) = _ ∧ _
    unfold zzk
    have hml : roomLen = 140737488351232 := rfl
    by_cases hj : j < x.Items.length
    · by_cases hn : n ≤ limit
      · have e1 : IntKind.i64.wrap ((limit : Int) - (n : Int)) = ((limit - n : Nat) : Int) := by rw [wrap_of (by omega) (by omega)]; omega
        obtain ⟨ht, hgy⟩ := hg _ (getD_mem hj)
        obtain ⟨w, hw, hwB, hwP⟩ := hgy (limit - n) (by omega)
        have ed : IntKind.i64.wrap (((d + 1 : Nat) : Int) - 1) = (d : Int) := by rw [wrap_of (by omega) (by omega)]; omega
        simp only [Wy.ev_i, Wy.ev_k, Wy.ev_h, Wy.ev_bn, Wy.ev_d, Int.ofNat_eq_natCast, lt_nat, le0_nat, decide_true, decide_false, Bool.and_self, Bool.true_and, Bool.and_true, Bool.and_false, Bool.false_and, cond_true, cond_false, Int.toNat_natCast, Bool.not_true, Bool.not_false, hj, le_nat, hn, e1, ed, hw]
        generalize hsz : (x.Items.getD j default).Value.Text.size = sz at *
        have e3 : IntKind.i64.wrap (IntKind.i64.wrap ((n : Int) + (sz : Int)) + (w : Int)) = ((n + sz + w : Nat) : Int) := by rw [wrap_of (z := (n : Int) + (sz : Int)) (by omega) (by omega), wrap_of (by omega) (by omega)]; omega
        rw [e3, wrap_succ (by omega)]
        obtain ⟨n', h4, h5, h6, h7⟩ := w18 x i k hlen hg fuel (j + 1) (n + sz + w) (by omega) (by omega) (by omega)
        refine ⟨n', h4, by omega, by omega, fun hn' => ?_⟩
        obtain ⟨h8, h9⟩ := h7 hn'
        obtain ⟨p1, p2⟩ := hwP (by omega)
        rw [drop_lt hj, zbqb]
        refine ⟨fun y hy => ?_, by omega⟩
        rcases List.mem_cons.1 hy with rfl | hy
        · exact ⟨by omega, p1⟩
        · exact h8 y hy
      · simp only [Wy.ev_i, Wy.ev_k, Wy.ev_h, Wy.ev_bn, Wy.ev_d, Int.ofNat_eq_natCast, lt_nat, le0_nat, decide_true, decide_false, Bool.and_self, Bool.true_and, Bool.and_true, Bool.and_false, Bool.false_and, cond_true, cond_false, Int.toNat_natCast, Bool.not_true, Bool.not_false, hj, le_nat, hn]
        exact ⟨n, rfl, Nat.le_refl _, by omega, fun h => absurd h hn⟩
    · simp only [Wy.ev_i, Wy.ev_k, Wy.ev_h, Wy.ev_bn, Wy.ev_d, Int.ofNat_eq_natCast, lt_nat, le0_nat, decide_true, decide_false, Bool.and_self, Bool.true_and, Bool.and_true, Bool.and_false, Bool.false_and, cond_true, cond_false, Int.toNat_natCast, Bool.not_true, Bool.not_false, hj]
      exact ⟨n, rfl, Nat.le_refl _, by omega, fun _ => by rw [drop_ge hj, zbqm]; exact ⟨fun y hy => (by cases hy), Nat.le_refl _⟩⟩
theorem w9 (i : Nat) (hi : i < a.length) (hla : (a.getD i default).Factors.length ≤ roomLen) (hg : ∀ f ∈ (a.getD i default).Factors, f.Atom.Args.length ≤ roomLen ∧ f.Atom.Items.length ≤ roomLen ∧ f.Atom.Bound.Text.size ≤ roomLen ∧ (∀ y ∈ f.Atom.Args, ∀ l : Nat, l ≤ 1000 → ∃ w : Nat, g y l d = (true, (w : Int)) ∧ w ≤ B ∧ (w ≤ l → P y ∧ totAnn y ≤ w)) ∧
      ∀ y ∈ f.Atom.Items, y.Value.Text.size ≤ roomLen ∧ ∀ l : Nat, l ≤ 1000 → ∃ w : Nat, g y.Ann l d = (true, (w : Int)) ∧ w ≤ B ∧ (w ≤ l → P y.Ann ∧ totAnn y.Ann ≤ w)) :
    ∀ (fuel k n : Nat), (a.getD i default).Factors.length < k + fuel → k ≤ (a.getD i default).Factors.length → n ≤ 2305843009213693952 → ∃ n' : Nat, z1m g fuel a limit (d + 1 : Nat) n i k = (true, (a, (limit : Int), ((d + 1 : Nat) : Int), (n' : Int), (i : Int))) ∧ n ≤ n' ∧ n' ≤ max n (limit + 4 * roomLen + B) ∧
      (n' ≤ limit → (∀ f ∈ (a.getD i default).Factors.drop k, (f.Atom.Args.length ≤ 1000 ∧ f.Atom.Items.length ≤ 1000 ∧ f.Atom.Bound.Text.size ≤ 1000) ∧ (∀ y ∈ f.Atom.Args, P y) ∧ ∀ y ∈ f.Atom.Items, y.Value.Text.size ≤ 1000 ∧ P y.Ann) ∧ n + zk8 ((a.getD i default).Factors.drop k) ≤ n')
  | 0, k, n, h1, h2, h3 => by omega
  | fuel + 1, k, n, h1, h2, h3 => by
    show ∃ n' : Nat, (z06 g a limit (d + 1 : Nat) n i k).ev (fun x y => z1m g fuel x.1 x.2.1 x.2.2.1 x.2.2.2.1 x.2.2.2.2.1 x.2.2.2.2.2.1) (fun r => (true, r)) (false, default) = _ ∧ _
    unfold z06
    have hml : roomLen = 140737488351232 := rfl
    by_cases hk : k < (a.getD i default).Factors.length
    · by_cases hn : n ≤ limit
      · simp only [Wy.ev_i, Wy.ev_k, Wy.ev_h, Wy.ev_bn, Wy.ev_d, Int.ofNat_eq_natCast, lt_nat, le0_nat, decide_true, decide_false, Bool.and_self, Bool.true_and, Bool.and_true, Bool.and_false, Bool.false_and, cond_true, cond_false, Int.toNat_natCast, Bool.not_true, Bool.not_false, hi, hk, le_nat, hn, Atom.eta]
        obtain ⟨ha1, ha2, ha3, hgA, hgI⟩ := hg _ (getD_mem hk)
        generalize hf : ((a.getD i default).Factors.getD k default) = f at *
        have e0 : IntKind.i64.wrap (IntKind.i64.wrap (IntKind.i64.wrap ((n : Int) + (f.Atom.Items.length : Int)) + (f.Atom.Args.length : Int)) + (f.Atom.Bound.Text.size : Int)) = ((n + f.Atom.Items.length + f.Atom.Args.length + f.Atom.Bound.Text.size : Nat) : Int) := by
          rw [wrap_of (z := (n : Int) + (f.Atom.Items.length : Int)) (by omega) (by omega), wrap_of (z := (n : Int) + (f.Atom.Items.length : Int) + (f.Atom.Args.length : Int)) (by omega) (by omega), wrap_of (by omega) (by omega)]; omega
        rw [e0]
        obtain ⟨n1, q1, q2, q3, q4⟩ := w14 g a limit d hl hd B hB P f.Atom i k ha1 hgA (a.length + limit + (d + 1) + ((n + f.Atom.Items.length + f.Atom.Args.length + f.Atom.Bound.Text.size : Nat) : Int).toNat + i + k + Int.toNat 0 + 1 + f.Atom.Args.length + f.Atom.Items.length) 0 (n + f.Atom.Items.length + f.Atom.Args.length + f.Atom.Bound.Text.size) (by omega) (by omega) (by omega)
        rw [show ((0 : Nat) : Int) = (0 : Int) from rfl] at q1
        rw [q1]
        simp only [cond_true, Atom.eta, Int.toNat_natCast]
        obtain ⟨n2, r1, r2, r3, r4⟩ := w18 g a limit d hl hd B hB P f.Atom i k ha2 hgI (a.length + limit + (d + 1) + n1 + i + k + Int.toNat 0 + 1 + f.Atom.Args.length + f.Atom.Items.length) 0 n1 (by omega) (by omega) (by omega)
        rw [show ((0 : Nat) : Int) = (0 : Int) from rfl] at r1
        rw [r1]
        simp only [cond_true]
        rw [wrap_succ (by omega)]
        obtain ⟨n', h4, h5, h6, h7⟩ := w9 i hi hla hg fuel (k + 1) n2 (by omega) (by omega) (by omega)
        refine ⟨n', h4, by omega, by omega, fun hn' => ?_⟩
        obtain ⟨h8, h9⟩ := h7 hn'
        obtain ⟨q5, q6⟩ := q4 (by omega)
        obtain ⟨r5, r6⟩ := r4 (by omega)
        rw [List.drop_zero] at q5 q6 r5 r6
        rw [drop_lt hk, zbor, hf, zbrj]
        refine ⟨fun y hy => ?_, by omega⟩
        rcases List.mem_cons.1 hy with rfl | hy
        · exact ⟨⟨by omega, by omega, by omega⟩, q5, r5⟩
        · exact h8 y hy
      · simp only [Wy.ev_i, Wy.ev_k, Wy.ev_h, Wy.ev_bn, Wy.ev_d, Int.ofNat_eq_natCast, lt_nat, le0_nat, decide_true, decide_false, Bool.and_self, Bool.true_and, Bool.and_true, Bool.and_false, Bool.false_and, cond_true, cond_false, Int.toNat_natCast, Bool.not_true, Bool.not_false, hi, hk, le_nat, hn]
        exact ⟨n, rfl, Nat.le_refl _, by omega, fun h => absurd h hn⟩
    · simp only [Wy.ev_i, Wy.ev_k, Wy.ev_h, Wy.ev_bn, Wy.ev_d, Int.ofNat_eq_natCast, lt_nat, le0_nat, decide_true, decide_false, Bool.and_self, Bool.true_and, Bool.and_true, Bool.and_false, Bool.false_and, cond_true, cond_false, Int.toNat_natCast, Bool.not_true, Bool.not_false, hi, hk]
      exact ⟨n, rfl, Nat.le_refl _, by omega, fun _ => by rw [drop_ge hk, zbpf]; exact ⟨fun y hy => (by cases hy), Nat.le_refl _⟩⟩
theorem w5 (hla : ∀ t ∈ a, t.Factors.length ≤ roomLen) (hg : ∀ t ∈ a, ∀ f ∈ t.Factors, f.Atom.Args.length ≤ roomLen ∧ f.Atom.Items.length ≤ roomLen ∧ f.Atom.Bound.Text.size ≤ roomLen ∧ (∀ y ∈ f.Atom.Args, ∀ l : Nat, l ≤ 1000 → ∃ w : Nat, g y l d = (true, (w : Int)) ∧ w ≤ B ∧ (w ≤ l → P y ∧ totAnn y ≤ w)) ∧
      ∀ y ∈ f.Atom.Items, y.Value.Text.size ≤ roomLen ∧ ∀ l : Nat, l ≤ 1000 → ∃ w : Nat, g y.Ann l d = (true, (w : Int)) ∧ w ≤ B ∧ (w ≤ l → P y.Ann ∧ totAnn y.Ann ≤ w)) (hlen : a.length ≤ roomLen) :
    ∀ (fuel i n : Nat), a.length < i + fuel → i ≤ a.length → n ≤ 2305843009213693952 → ∃ n' : Nat, z1g g fuel a limit (d + 1 : Nat) n i = (true, (n' : Int)) ∧ n ≤ n' ∧ n' ≤ max n (limit + 6 * roomLen + B) ∧
      (n' ≤ limit → (n + (a.length - i) ≤ n' ∧ n + totAnn (a.drop i) ≤ n') ∧ ∀ t ∈ a.drop i, t.Factors.length ≤ 1000 ∧ ∀ f ∈ t.Factors, (f.Atom.Args.length ≤ 1000 ∧ f.Atom.Items.length ≤ 1000 ∧ f.Atom.Bound.Text.size ≤ 1000) ∧ (∀ y ∈ f.Atom.Args, P y) ∧ ∀ y ∈ f.Atom.Items, y.Value.Text.size ≤ 1000 ∧ P y.Ann)
  | 0, i, n, h1, h2, h3 => by omega
  | fuel + 1, i, n, h1, h2, h3 => by
    show ∃ n' : Nat, (z1l g a limit (d + 1 : Nat) n i).ev (fun x y => z1g g fuel x.1 x.2.1 x.2.2.1 x.2.2.2.1 x.2.2.2.2.1) (fun r => (true, r)) (false, default) = _ ∧ _
    unfold z1l
    have hml : roomLen = 140737488351232 := rfl
    by_cases hi : i < a.length
    · by_cases hn : n ≤ limit
      · simp only [Wy.ev_i, Wy.ev_k, Wy.ev_h, Wy.ev_bn, Wy.ev_d, Int.ofNat_eq_natCast, lt_nat, le0_nat, decide_true, decide_false, Bool.and_self, Bool.true_and, Bool.and_true, Bool.and_false, Bool.false_and, cond_true, cond_false, Int.toNat_natCast, Bool.not_true, Bool.not_false, hi, le_nat, hn]
        have hla' := hla _ (getD_mem hi)
        have e0 : IntKind.i64.wrap (IntKind.i64.wrap ((n : Int) + 1) + ((a.getD i default).Factors.length : Int)) = ((n + 1 + (a.getD i default).Factors.length : Nat) : Int) := by
          rw [wrap_succ (by omega), wrap_of (by omega) (by omega)]; omega
        rw [e0]
        obtain ⟨n1, q1, q2, q3, q4⟩ := w9 g a limit d hl hd B hB P i hi hla' (hg _ (getD_mem hi)) (a.length + limit + (d + 1) + ((n + 1 + (a.getD i default).Factors.length : Nat) : Int).toNat + i + Int.toNat 0 + 1) 0 (n + 1 + (a.getD i default).Factors.length) (by omega) (by omega) (by omega)
        rw [show ((0 : Nat) : Int) = (0 : Int) from rfl] at q1
        rw [q1]
        simp only [cond_true]
        rw [wrap_succ (by omega)]
        obtain ⟨n', h4, h5, h6, h7⟩ := w5 hla hg hlen fuel (i + 1) n1 (by omega) (by omega) (by omega)
        refine ⟨n', h4, by omega, by omega, fun hn' => ?_⟩
        obtain ⟨⟨h8, h10⟩, h9⟩ := h7 hn'
        obtain ⟨q5, q6⟩ := q4 (by omega)
        rw [List.drop_zero] at q5 q6
        rw [drop_lt hi, zbrb]
        refine ⟨⟨by omega, by omega⟩, fun y hy => ?_⟩
        rcases List.mem_cons.1 hy with rfl | hy
        · exact ⟨by omega, q5⟩
        · exact h9 y hy
      · simp only [Wy.ev_i, Wy.ev_k, Wy.ev_h, Wy.ev_bn, Wy.ev_d, Int.ofNat_eq_natCast, lt_nat, le0_nat, decide_true, decide_false, Bool.and_self, Bool.true_and, Bool.and_true, Bool.and_false, Bool.false_and, cond_true, cond_false, Int.toNat_natCast, Bool.not_true, Bool.not_false, hi, le_nat, hn]
        exact ⟨n, rfl, Nat.le_refl _, by omega, fun h => absurd h hn⟩
    · simp only [Wy.ev_i, Wy.ev_k, Wy.ev_h, Wy.ev_bn, Wy.ev_d, Int.ofNat_eq_natCast, lt_nat, le0_nat, decide_true, decide_false, Bool.and_self, Bool.true_and, Bool.and_true, Bool.and_false, Bool.false_and, cond_true, cond_false, Int.toNat_natCast, Bool.not_true, Bool.not_false, hi]
      exact ⟨n, rfl, Nat.le_refl _, by omega, fun _ => by rw [drop_ge hi, zbrg]; exact ⟨⟨by omega, Nat.le_refl _⟩, fun y hy => (by cases hy)⟩⟩
end
theorem zbpn : ∀ (d N : Nat), d < N → d ≤ 12 → ∀ (l : Nat), l ≤ 1000 → ∀ a, wfAnn a → a.length ≤ roomLen → ∃ w : Nat, zq5 N a l d = (true, (w : Int)) ∧ w ≤ (d + 1) * 4503599627370496 ∧ (w ≤ l → fineAnn d a ∧ totAnn a ≤ w)
  | _, 0, h, _, _, _, _, _, _ => by omega
  | 0, N + 1, _, _, l, hl, a, hw, hlen => by
    rw [zbbu]
    unfold zup zwj
    refine ⟨l + 1, ?_, by omega, fun h => by omega⟩
    simp only [Wy.fin_i, Wy.fin_k]
    rw [wrap_succ (by omega)]; rfl
  | d + 1, N + 1, hN, hd, l, hl, a, hw, hlen => by
    rw [zbbu]
    unfold zup zwj
    have hml : roomLen = 140737488351232 := rfl
    have ih := fun y (h1 : wfAnn y) (h2 : y.length ≤ roomLen) l hl => zbpn d N (by omega) (by omega) l hl y h1 h2
    have e0 : (((d + 1 : Nat) : Int) == (0 : Int)) = false := by
      rw [beq_eq_false_iff_ne]; omega
    obtain ⟨n', h1, h2, h3, h4⟩ := w5 (zq5 N) a l d hl (by omega) ((d + 1) * 4503599627370496) (by omega) (fineAnn d) (fun t ht => (zbon (zbl1 hw t ht)).2.2) (fun t ht f hf => by
      have hx := zbrm (zbql (zbkb (zbon (zbl1 hw t ht)).2.1 f hf)).1
      refine ⟨hx.1.2, hx.2.1.2, hx.2.2.1.2.2, fun y hy l hl => ?_, fun y hy => ?_⟩
      · have := zboi hx.1.1 y hy
        exact ih y this.1 this.2 l hl
      · have := z8s hx.2.1.1 y hy
        exact ⟨this.1.2.2, fun l hl => ih y.Ann this.2.1 this.2.2 l hl⟩) hlen (a.length + l + (d + 1) + Int.toNat 0 + Int.toNat 0 + 1) 0 0 (by omega) (by omega) (by omega)
    rw [show ((0 : Nat) : Int) = (0 : Int) from rfl] at h1
    refine ⟨n', ?_, by omega, fun hn => ?_⟩
    · simp only [Wy.fin_i, Wy.fin_k, Wy.fin_bn, e0, cond_false, Int.toNat_natCast, h1, cond_true]
    · obtain ⟨⟨h5, h12⟩, h6⟩ := h4 hn
      rw [List.drop_zero] at h12
      refine ⟨⟨by omega, fun t ht => ?_⟩, by omega⟩
      obtain ⟨h7, h8⟩ := h6 t (by simpa using ht)
      refine ⟨by omega, fun f hf => ?_⟩
      obtain ⟨h9, h10, h11⟩ := h8 f hf
      exact ⟨⟨by omega, by omega, by omega⟩, h10, fun w hw => ⟨by have := (h11 w hw).1; omega, (h11 w hw).2⟩⟩
theorem zbqz (limit : Nat) (hl : limit ≤ 1000) (l : List (List Term)) (hll : l.length ≤ 1000) (hw : ∀ a ∈ l, wfAnn a ∧ a.length ≤ roomLen) : ∀ (n i : Nat), l.length < i + n → i ≤ l.length → ∃ r, zbd8 n limit l i = (true, r) ∧ ((r = .inl false) ∨ (r = .inr () ∧ ∀ a ∈ l.drop i, fineAnn 12 a ∧ totAnn a ≤ limit))
  | 0, i, h1, h2 => by omega
  | n + 1, i, h1, h2 => by
    show ∃ r, (zbee limit l i).ev (fun x y => zbd8 n x.1 x.2.1 x.2.2.1) (fun r => (true, r)) (false, .inl default) = (true, r) ∧ _
    unfold zbee
    by_cases hi : i < l.length
    · obtain ⟨w, q1, q2, q3⟩ := zbpn 12 1000 (by omega) (by omega) limit hl _ (hw _ (getD_mem hi)).1 (hw _ (getD_mem hi)).2
      have q1' : zbef (l.getD i default) (limit : Int) 12 = (true, (w : Int)) := q1
      simp only [Wy.ev_i, Wy.ev_k, Wy.ev_h, Wy.ev_bn, Wy.ev_d, Int.ofNat_eq_natCast, lt_nat, le0_nat, decide_true, decide_false, Bool.and_self, Bool.true_and, Bool.and_true, Bool.and_false, Bool.false_and, cond_true, cond_false, Int.toNat_natCast, Bool.not_true, Bool.not_false, hi, q1', gt_nat]
      by_cases hg : limit < w
      · simp only [hg, decide_true, cond_true]
        exact ⟨_, rfl, .inl rfl⟩
      · simp only [hg, decide_false, cond_false]
        rw [wrap_succ (by omega)]
        obtain ⟨r, h3, h4⟩ := zbqz limit hl l hll hw n (i + 1) (by omega) (by omega)
        refine ⟨r, h3, ?_⟩
        rcases h4 with h4 | ⟨h4, h5⟩
        · exact .inl h4
        · refine .inr ⟨h4, fun a ha => ?_⟩
          rw [drop_lt hi] at ha
          rcases List.mem_cons.1 ha with rfl | ha
          · exact ⟨(q3 (by omega)).1, by have := (q3 (by omega)).2; omega⟩
          · exact h5 a ha
    · simp only [Wy.ev_i, Wy.ev_k, Wy.ev_h, Wy.ev_bn, Wy.ev_d, Int.ofNat_eq_natCast, lt_nat, le0_nat, decide_true, decide_false, Bool.and_self, Bool.true_and, Bool.and_true, Bool.and_false, Bool.false_and, cond_true, cond_false, Int.toNat_natCast, Bool.not_true, Bool.not_false, hi]
      exact ⟨_, rfl, .inr ⟨rfl, fun a ha => by rw [drop_ge hi] at ha; cases ha⟩⟩
theorem Few_ok (limit : Nat) (hl : limit ≤ 1000) (l : List (List Term)) (hll : l.length ≤ 1000) (hw : ∀ a ∈ l, wfAnn a ∧ a.length ≤ roomLen) : ∃ b, z38 limit l = (true, b) ∧ (b = true → ∀ a ∈ l, fineAnn 12 a ∧ totAnn a ≤ limit) := by
  unfold z38 zbhd
  obtain ⟨r, h1, h2⟩ := zbqz limit hl l hll hw (limit + l.length + Int.toNat 0 + 1) 0 (by omega) (by omega)
  rw [show ((0 : Nat) : Int) = (0 : Int) from rfl] at h1
  rw [Wy.fin_bn]
  simp only [Int.toNat_natCast, h1, cond_true]
  rcases h2 with rfl | ⟨rfl, h2⟩
  · exact ⟨false, rfl, fun h => by cases h⟩
  · exact ⟨true, rfl, fun _ a ha => h2 a (by simpa using ha)⟩

mutual
def sizAtom : Atom → Nat
  | ⟨_, _, a, _, i, _, _⟩ => sizAnns a + zee i
def zc1 : List Factor → Nat
  | [] => 0
  | ⟨x, _⟩ :: r => sizAtom x + zc1 r
def sizAnn : List Term → Nat
  | [] => 0
  | ⟨_, fs⟩ :: r => 1 + fs.length + zc1 fs + sizAnn r
def sizAnns : List (List Term) → Nat
  | [] => 0
  | a :: r => sizAnn a + sizAnns r
def zee : List Weighted → Nat
  | [] => 0
  | ⟨_, a⟩ :: r => 1 + sizAnn a + zee r
end
theorem zn8 (x : Atom) : sizAtom x = sizAnns x.Args + zee x.Items := by cases x; rw [sizAtom]
theorem zkk (f : Factor) (r : List Factor) : zc1 (f :: r) = sizAtom f.Atom + zc1 r := by cases f; rw [zc1]
theorem ztm (t : Term) (r : List Term) : sizAnn (t :: r) = 1 + t.Factors.length + zc1 t.Factors + sizAnn r := by cases t; rw [sizAnn]
theorem zrq (a : List Term) (r : List (List Term)) : sizAnns (a :: r) = sizAnn a + sizAnns r := by rw [sizAnns]
theorem zmz (w : Weighted) (r : List Weighted) : zee (w :: r) = 1 + sizAnn w.Ann + zee r := by cases w; rw [zee]
theorem zbm9 : sizAnns [] = 0 := by rw [sizAnns]
theorem zbmi : zee [] = 0 := by rw [zee]
theorem z7u : zc1 [] = 0 := by rw [zc1]
theorem zbn8 : sizAnn [] = 0 := by rw [sizAnn]
theorem zbol (l : List (List Term)) : ∀ n : Nat, l.foldl (fun s t => s + sizAnn t) n = n + sizAnns l := by
  induction l with
  | nil => intro n; rw [zbm9]; rfl
  | cons a r ih => intro n; rw [List.foldl_cons, ih, zrq]; omega
theorem zbm6 (l : List Weighted) : ∀ n : Nat, l.foldl (fun s t => s + 1 + sizAnn t.Ann) n = n + zee l := by
  induction l with
  | nil => intro n; rw [zbmi]; rfl
  | cons a r ih => intro n; rw [List.foldl_cons, ih, zmz]; omega
theorem zbp9 (l : List Factor) : ∀ n : Nat, l.foldl (fun s t => s + sizAtom t.Atom) n = n + zc1 l := by
  induction l with
  | nil => intro n; rw [z7u]; rfl
  | cons a r ih => intro n; rw [List.foldl_cons, ih, zkk]; omega
theorem zbpo (l : List Term) : ∀ n : Nat, l.foldl (fun s t => s + 1 + t.Factors.length + zc1 t.Factors) n = n + sizAnn l := by
  induction l with
  | nil => intro n; rw [zbn8]; rfl
  | cons a r ih => intro n; rw [List.foldl_cons, ih, ztm]; omega
theorem ztd {n m : Nat} (h : n + m ≤ 4611686018427387904) : IntKind.i64.wrap ((n : Int) + (m : Int)) = ((n + m : Nat) : Int) := by
  rw [wrap_id (by omega) (by omega)]; omega
theorem wrap_le {i : Nat} (h : i < 4611686018427387904) : IntKind.i64.wrap ((i : Int) + 1) = ((i + 1 : Nat) : Int) := wrap_succ h

section
variable (g : List Term → Bool × Int)
theorem Size_10 (l : List (List Term)) (hl : l.length ≤ 1000000) (hg : ∀ y ∈ l, g y = (true, (sizAnn y : Int))) (t12 : List Term) (t13 t14 : Int) (t25 : List Factor) (t26 t27 : Int) (f : Factor) (fuel n : Nat) (hf : l.length < fuel) (hn : n + sizAnns l ≤ 4611686018427387904) :
    z34 g fuel n t12 t13 t14 t25 t26 t27 l l.length 0 f = (true, (((n + sizAnns l : Nat) : Int), t12, t13, t14, t25, t26, t27, f)) := by
  have h := iter_list (W := zpg g) (z := default) (l := l) (fun i (n : Nat) => ((n : Int), (), t12, t13, t14, t25, t26, t27, l, (l.length : Int), (i : Int), ())) (fun _ _ => (f, ())) (fun y n => .inl (n + sizAnn y)) (fun n => ((n : Int), t12, t13, t14, t25, t26, t27, f)) (fun i n => n + sizAnns (l.drop i) ≤ 4611686018427387904)
    (fun i n hi hI => .inl ⟨_, rfl, by rw [drop_lt hi, zrq] at hI; omega, fun H K D => by
      rw [drop_lt hi, zrq] at hI
      show (zlg g n t12 t13 t14 t25 t26 t27 l l.length i f).ev H K D = _
      unfold zlg
      simp only [Wy.ev_i, Wy.ev_k, Wy.ev_h, Wy.ev_bn, Wy.ev_d, Int.ofNat_eq_natCast, lt_nat, le0_nat, decide_true, decide_false, Bool.and_self, Bool.true_and, Bool.and_true, Bool.and_false, Bool.false_and, cond_true, cond_false, Int.toNat_natCast, Bool.not_true, Bool.not_false, hi, hg _ (getD_mem hi)]
      rw [ztd (by omega), wrap_le (by omega)]⟩)
    (fun n hI H K D => by
      show (zlg g n t12 t13 t14 t25 t26 t27 l l.length l.length f).ev H K D = _
      unfold zlg
      simp only [Wy.ev_i, Wy.ev_k, Int.ofNat_eq_natCast, lt_nat, le0_nat, decide_true, decide_false, Bool.and_self, Bool.true_and, Bool.and_true, Bool.and_false, Bool.false_and, cond_true, cond_false, Int.toNat_natCast, Bool.not_true, Bool.not_false, Nat.lt_irrefl]) fuel 0 n (by omega) (Nat.zero_le _) (by simpa using hn)
  rw [List.drop_zero, runL_fold, zbol] at h
  exact h
theorem Size_15 (l : List Weighted) (hl : l.length ≤ 1000000) (hg : ∀ y ∈ l, g y.Ann = (true, (sizAnn y.Ann : Int))) (t12 : List Term) (t13 t14 : Int) (t25 : List Factor) (t26 t27 : Int) (fuel n : Nat) (hf : l.length < fuel) (hn : n + zee l ≤ 4611686018427387904) :
    z30 g fuel n t12 t13 t14 t25 t26 t27 l l.length 0 = (true, (((n + zee l : Nat) : Int), t12, t13, t14, t25, t26, t27)) := by
  have h := iter_list (W := zpd g) (z := default) (l := l) (fun i (n : Nat) => ((n : Int), t12, t13, t14, t25, t26, t27, l, (l.length : Int), (i : Int), ())) (fun _ _ => ()) (fun y n => .inl (n + 1 + sizAnn y.Ann)) (fun n => ((n : Int), t12, t13, t14, t25, t26, t27)) (fun i n => n + zee (l.drop i) ≤ 4611686018427387904)
    (fun i n hi hI => .inl ⟨_, rfl, by rw [drop_lt hi, zmz] at hI; omega, fun H K D => by
      rw [drop_lt hi, zmz] at hI
      show (zll g n t12 t13 t14 t25 t26 t27 l l.length i).ev H K D = _
      unfold zll
      simp only [Wy.ev_i, Wy.ev_k, Wy.ev_h, Wy.ev_bn, Wy.ev_d, Int.ofNat_eq_natCast, lt_nat, le0_nat, decide_true, decide_false, Bool.and_self, Bool.true_and, Bool.and_true, Bool.and_false, Bool.false_and, cond_true, cond_false, Int.toNat_natCast, Bool.not_true, Bool.not_false, hi, hg _ (getD_mem hi)]
      rw [wrap_le (by omega), show (1 : Int) = ((1 : Nat) : Int) from rfl, ztd (by omega), ztd (by omega), ← Nat.add_assoc]⟩)
    (fun n hI H K D => by
      show (zll g n t12 t13 t14 t25 t26 t27 l l.length l.length).ev H K D = _
      unfold zll
      simp only [Wy.ev_i, Wy.ev_k, Int.ofNat_eq_natCast, lt_nat, le0_nat, decide_true, decide_false, Bool.and_self, Bool.true_and, Bool.and_true, Bool.and_false, Bool.false_and, cond_true, cond_false, Int.toNat_natCast, Bool.not_true, Bool.not_false, Nat.lt_irrefl]) fuel 0 n (by omega) (Nat.zero_le _) (by simpa using hn)
  rw [List.drop_zero, runL_fold, zbm6] at h
  exact h
theorem Size_7 (l : List Factor) (hl : l.length ≤ 1000000) (hg : ∀ f ∈ l, (f.Atom.Args.length ≤ 1000000 ∧ f.Atom.Items.length ≤ 1000000) ∧ (∀ y ∈ f.Atom.Args, g y = (true, (sizAnn y : Int))) ∧ ∀ y ∈ f.Atom.Items, g y.Ann = (true, (sizAnn y.Ann : Int))) (t12 : List Term) (t13 t14 : Int) (fuel n : Nat) (hf : l.length < fuel) (hn : n + zc1 l ≤ 4611686018427387904) :
    z59 g fuel n t12 t13 t14 l l.length 0 = (true, (((n + zc1 l : Nat) : Int), t12, t13, t14)) := by
  have h := iter_list (W := zq1 g) (z := default) (l := l) (fun i (n : Nat) => ((n : Int), t12, t13, t14, l, (l.length : Int), (i : Int), ())) (fun _ _ => ()) (fun y n => .inl (n + sizAtom y.Atom)) (fun n => ((n : Int), t12, t13, t14)) (fun i n => n + zc1 (l.drop i) ≤ 4611686018427387904)
    (fun i n hi hI => .inl ⟨_, rfl, by rw [drop_lt hi, zkk] at hI; omega, fun H K D => by
      rw [drop_lt hi, zkk, zn8] at hI
      obtain ⟨⟨h1, h2⟩, h3, h4⟩ := hg _ (getD_mem hi)
      show (zl2 g n t12 t13 t14 l l.length i).ev H K D = _
      unfold zl2
      simp only [Wy.ev_i, Wy.ev_k, Wy.ev_h, Wy.ev_bn, Wy.ev_d, Int.ofNat_eq_natCast, lt_nat, le0_nat, decide_true, decide_false, Bool.and_self, Bool.true_and, Bool.and_true, Bool.and_false, Bool.false_and, cond_true, cond_false, Int.toNat_natCast, Bool.not_true, Bool.not_false, hi, Atom.eta]
      rw [Size_10 g _ h1 h3 _ _ _ _ _ _ _ _ _ (by omega) (by omega)]
      simp only [cond_true, Int.toNat_natCast]
      rw [Size_15 g _ h2 h4 _ _ _ _ _ _ _ _ (by omega) (by omega)]
      simp only [cond_true]
      rw [wrap_le (by omega), zn8, Nat.add_assoc]⟩)
    (fun n hI H K D => by
      show (zl2 g n t12 t13 t14 l l.length l.length).ev H K D = _
      unfold zl2
      simp only [Wy.ev_i, Wy.ev_k, Int.ofNat_eq_natCast, lt_nat, le0_nat, decide_true, decide_false, Bool.and_self, Bool.true_and, Bool.and_true, Bool.and_false, Bool.false_and, cond_true, cond_false, Int.toNat_natCast, Bool.not_true, Bool.not_false, Nat.lt_irrefl]) fuel 0 n (by omega) (Nat.zero_le _) (by simpa using hn)
  rw [List.drop_zero, runL_fold, zbp9] at h
  exact h
theorem Size_3 (l : List Term) (hl : l.length ≤ 1000000) (hg : ∀ t ∈ l, t.Factors.length ≤ 1000000 ∧ ∀ f ∈ t.Factors, (f.Atom.Args.length ≤ 1000000 ∧ f.Atom.Items.length ≤ 1000000) ∧ (∀ y ∈ f.Atom.Args, g y = (true, (sizAnn y : Int))) ∧ ∀ y ∈ f.Atom.Items, g y.Ann = (true, (sizAnn y.Ann : Int))) (fuel n : Nat) (hf : l.length < fuel) (hn : n + sizAnn l ≤ 4611686018427387904) :
    z4n g fuel n l l.length 0 = (true, ((n + sizAnn l : Nat) : Int)) := by
  have h := iter_list (W := zqm g) (z := default) (l := l) (fun i (n : Nat) => ((n : Int), l, (l.length : Int), (i : Int), ())) (fun _ _ => ()) (fun y n => .inl (n + 1 + y.Factors.length + zc1 y.Factors)) (fun n => (n : Int)) (fun i n => n + sizAnn (l.drop i) ≤ 4611686018427387904)
    (fun i n hi hI => .inl ⟨_, rfl, by rw [drop_lt hi, ztm] at hI; omega, fun H K D => by
      rw [drop_lt hi, ztm] at hI
      obtain ⟨h1, h3⟩ := hg _ (getD_mem hi)
      show (zmn g n l l.length i).ev H K D = _
      unfold zmn
      simp only [Wy.ev_i, Wy.ev_k, Wy.ev_h, Wy.ev_bn, Wy.ev_d, Int.ofNat_eq_natCast, lt_nat, le0_nat, decide_true, decide_false, Bool.and_self, Bool.true_and, Bool.and_true, Bool.and_false, Bool.false_and, cond_true, cond_false, Int.toNat_natCast, Bool.not_true, Bool.not_false, hi, Atom.eta]
      rw [show (1 : Int) = ((1 : Nat) : Int) from rfl, ztd (n := 1) (by omega), ztd (by omega)]
      rw [Size_7 g _ h1 h3 _ _ _ _ _ (by omega) (by omega)]
      simp only [cond_true]
      rw [show ((1 : Nat) : Int) = (1 : Int) from rfl, wrap_le (by omega), Nat.add_assoc n 1]⟩)
    (fun n hI H K D => by
      show (zmn g n l l.length l.length).ev H K D = _
      unfold zmn
      simp only [Wy.ev_i, Wy.ev_k, Int.ofNat_eq_natCast, lt_nat, le0_nat, decide_true, decide_false, Bool.and_self, Bool.true_and, Bool.and_true, Bool.and_false, Bool.false_and, cond_true, cond_false, Int.toNat_natCast, Bool.not_true, Bool.not_false, Nat.lt_irrefl]) fuel 0 n (by omega) (Nat.zero_le _) (by simpa using hn)
  rw [List.drop_zero, runL_fold, zbpo] at h
  exact h
theorem zbsi (x : Atom) (hl : x.Args.length ≤ 1000000) (hg : ∀ y ∈ x.Args, g y = (true, (sizAnn y : Int))) (a : List Term) (i k : Int) (fuel n : Nat) (hf : x.Args.length < fuel) (hn : n + sizAnns x.Args ≤ 4611686018427387904) :
    zbdo g fuel a n i k 0 x = (true, (a, ((n + sizAnns x.Args : Nat) : Int), i, k, x)) := by
  have h := iter_list (W := zwd g) (z := default) (l := x.Args) (fun j (n : Nat) => (a, (n : Int), i, k, (), (j : Int), ())) (fun _ _ => (x, ())) (fun y n => .inl (n + sizAnn y)) (fun n => (a, (n : Int), i, k, x)) (fun i n => n + sizAnns (x.Args.drop i) ≤ 4611686018427387904)
    (fun j n hi hI => .inl ⟨_, rfl, by rw [drop_lt hi, zrq] at hI; omega, fun H K D => by
      rw [drop_lt hi, zrq] at hI
      show (zrp g a n i k j x).ev H K D = _
      unfold zrp
      simp only [Wy.ev_i, Wy.ev_k, Wy.ev_h, Wy.ev_bn, Wy.ev_d, Int.ofNat_eq_natCast, lt_nat, le0_nat, decide_true, decide_false, Bool.and_self, Bool.true_and, Bool.and_true, Bool.and_false, Bool.false_and, cond_true, cond_false, Int.toNat_natCast, Bool.not_true, Bool.not_false, hi, hg _ (getD_mem hi)]
      rw [ztd (by omega), wrap_le (by omega)]⟩)
    (fun n hI H K D => by
      show (zrp g a n i k x.Args.length x).ev H K D = _
      unfold zrp
      simp only [Wy.ev_i, Wy.ev_k, Int.ofNat_eq_natCast, lt_nat, le0_nat, decide_true, decide_false, Bool.and_self, Bool.true_and, Bool.and_true, Bool.and_false, Bool.false_and, cond_true, cond_false, Int.toNat_natCast, Bool.not_true, Bool.not_false, Nat.lt_irrefl]) fuel 0 n (by omega) (Nat.zero_le _) (by simpa using hn)
  rw [List.drop_zero, runL_fold, zbol] at h
  exact h
theorem zbsa (x : Atom) (hl : x.Items.length ≤ 1000000) (hg : ∀ y ∈ x.Items, g y.Ann = (true, (sizAnn y.Ann : Int))) (a : List Term) (i k : Int) (fuel n : Nat) (hf : x.Items.length < fuel) (hn : n + zee x.Items ≤ 4611686018427387904) :
    zbd9 g fuel a n i k 0 x = (true, (a, ((n + zee x.Items : Nat) : Int), i, k)) := by
  have h := iter_list (W := zvy g) (z := default) (l := x.Items) (fun j (n : Nat) => (a, (n : Int), i, k, (), (j : Int), ())) (fun _ _ => (x, ())) (fun y n => .inl (n + 1 + sizAnn y.Ann)) (fun n => (a, (n : Int), i, k)) (fun i n => n + zee (x.Items.drop i) ≤ 4611686018427387904)
    (fun j n hi hI => .inl ⟨_, rfl, by rw [drop_lt hi, zmz] at hI; omega, fun H K D => by
      rw [drop_lt hi, zmz] at hI
      show (zrh g a n i k j x).ev H K D = _
      unfold zrh
      simp only [Wy.ev_i, Wy.ev_k, Wy.ev_h, Wy.ev_bn, Wy.ev_d, Int.ofNat_eq_natCast, lt_nat, le0_nat, decide_true, decide_false, Bool.and_self, Bool.true_and, Bool.and_true, Bool.and_false, Bool.false_and, cond_true, cond_false, Int.toNat_natCast, Bool.not_true, Bool.not_false, hi, hg _ (getD_mem hi)]
      rw [wrap_le (i := j) (by omega), wrap_le (i := n) (by omega), ztd (by omega)]⟩)
    (fun n hI H K D => by
      show (zrh g a n i k x.Items.length x).ev H K D = _
      unfold zrh
      simp only [Wy.ev_i, Wy.ev_k, Int.ofNat_eq_natCast, lt_nat, le0_nat, decide_true, decide_false, Bool.and_self, Bool.true_and, Bool.and_true, Bool.and_false, Bool.false_and, cond_true, cond_false, Int.toNat_natCast, Bool.not_true, Bool.not_false, Nat.lt_irrefl]) fuel 0 n (by omega) (Nat.zero_le _) (by simpa using hn)
  rw [List.drop_zero, runL_fold, zbm6] at h
  exact h
theorem zbja : ∀ (a : List Term) (i : Nat), i < a.length → (a.getD i default).Factors.length ≤ szTs a
  | [], i, h => by simp at h
  | t :: r, 0, h => by
    have : ∀ l : List Factor, l.length ≤ szFs l := fun l => by
      induction l with
      | nil => exact Nat.le_refl _
      | cons f r ih => simp only [szFs, List.length_cons]; omega
    have := this t.Factors
    simp only [szTs, List.getD_cons_zero]; omega
  | t :: r, i + 1, h => by
    have := zbja r i (by simpa using h)
    simp only [szTs, List.getD_cons_succ]; omega
theorem foldl_factors' (l : List Factor) : ∀ n : Nat, l.foldl (fun s t => s + 1 + sizAtom t.Atom) n = n + l.length + zc1 l := by
  induction l with
  | nil => intro n; rw [z7u]; rfl
  | cons a r ih => intro n; rw [List.foldl_cons, ih, zkk, List.length_cons]; omega
theorem RSize_7 (a : List Term) (i : Nat) (hi : i < a.length) (hla : a.length ≤ 1000000) (l : List Factor) (el : (a.getD i default).Factors = l) (hl : l.length ≤ 1000000) (hg : ∀ f ∈ l, (f.Atom.Args.length ≤ 1000000 ∧ f.Atom.Items.length ≤ 1000000) ∧ (∀ y ∈ f.Atom.Args, g y = (true, (sizAnn y : Int))) ∧ ∀ y ∈ f.Atom.Items, g y.Ann = (true, (sizAnn y.Ann : Int))) (fuel n : Nat) (hf : l.length < fuel) (hn : n + l.length + zc1 l ≤ 4611686018427387904) :
    zbgp g fuel a n i 0 = (true, (a, ((n + l.length + zc1 l : Nat) : Int), (i : Int))) := by
  have h := iter_list (W := zyl g) (z := default) (l := l) (fun k (n : Nat) => (a, (n : Int), (i : Int), (k : Int), ())) (fun _ _ => ()) (fun y n => .inl (n + 1 + sizAtom y.Atom)) (fun n => (a, (n : Int), (i : Int))) (fun k n => n + (l.drop k).length + zc1 (l.drop k) ≤ 4611686018427387904)
    (fun k n hk hI => .inl ⟨_, rfl, by rw [drop_lt hk, zkk, List.length_cons] at hI; omega, fun H K D => by
      rw [drop_lt hk, zkk, zn8, List.length_cons] at hI
      obtain ⟨⟨h1, h2⟩, h3, h4⟩ := hg _ (getD_mem hk)
      show (zs9 g a n i k).ev H K D = _
      unfold zs9
      simp only [Wy.ev_i, Wy.ev_k, Wy.ev_h, Wy.ev_bn, Wy.ev_d, Int.ofNat_eq_natCast, lt_nat, le0_nat, decide_true, decide_false, Bool.and_self, Bool.true_and, Bool.and_true, Bool.and_false, Bool.false_and, cond_true, cond_false, Int.toNat_natCast, Bool.not_true, Bool.not_false, hi, el, hk, Atom.eta]
      rw [wrap_le (i := n) (by omega)]
      rw [zbsi g _ h1 h3 _ _ _ _ _ (by omega) (by omega)]
      simp only [cond_true, Int.toNat_natCast, Atom.eta]
      rw [zbsa g _ h2 h4 _ _ _ _ _ (by omega) (by omega)]
      simp only [cond_true]
      rw [wrap_le (by omega), zn8, Nat.add_assoc (n + 1)]⟩)
    (fun n hI H K D => by
      show (zs9 g a n i l.length).ev H K D = _
      unfold zs9
      simp only [Wy.ev_i, Wy.ev_k, Int.ofNat_eq_natCast, lt_nat, le0_nat, decide_true, decide_false, Bool.and_self, Bool.true_and, Bool.and_true, Bool.and_false, Bool.false_and, cond_true, cond_false, Int.toNat_natCast, Bool.not_true, Bool.not_false, hi, el, Nat.lt_irrefl]) fuel 0 n (by omega) (Nat.zero_le _) (by simpa using hn)
  rw [List.drop_zero, runL_fold, foldl_factors'] at h
  exact h
theorem RSize_3 (l : List Term) (hl : l.length ≤ 1000000) (hg : ∀ t ∈ l, t.Factors.length ≤ 1000000 ∧ ∀ f ∈ t.Factors, (f.Atom.Args.length ≤ 1000000 ∧ f.Atom.Items.length ≤ 1000000) ∧ (∀ y ∈ f.Atom.Args, g y = (true, (sizAnn y : Int))) ∧ ∀ y ∈ f.Atom.Items, g y.Ann = (true, (sizAnn y.Ann : Int))) (fuel n : Nat) (hf : l.length < fuel) (hn : n + sizAnn l ≤ 4611686018427387904) :
    zbgr g fuel l n 0 = (true, ((n + sizAnn l : Nat) : Int)) := by
  have h := iter_list (W := zxw g) (z := default) (l := l) (fun i (n : Nat) => (l, (n : Int), (i : Int), ())) (fun _ _ => ()) (fun y n => .inl (n + 1 + y.Factors.length + zc1 y.Factors)) (fun n => (n : Int)) (fun i n => n + sizAnn (l.drop i) ≤ 4611686018427387904)
    (fun i n hi hI => .inl ⟨_, rfl, by rw [drop_lt hi, ztm] at hI; omega, fun H K D => by
      rw [drop_lt hi, ztm] at hI
      obtain ⟨h1, h3⟩ := hg _ (getD_mem hi)
      have hz := zbja l i hi
      show (zs5 g l n i).ev H K D = _
      unfold zs5
      simp only [Wy.ev_i, Wy.ev_k, Wy.ev_h, Wy.ev_bn, Wy.ev_d, Int.ofNat_eq_natCast, lt_nat, le0_nat, decide_true, decide_false, Bool.and_self, Bool.true_and, Bool.and_true, Bool.and_false, Bool.false_and, cond_true, cond_false, Int.toNat_natCast, Bool.not_true, Bool.not_false, hi, Atom.eta]
      rw [wrap_le (i := n) (by omega)]
      rw [RSize_7 g l i hi hl _ rfl h1 h3 _ _ (by omega) (by omega)]
      simp only [cond_true]
      rw [wrap_le (by omega)]⟩)
    (fun n hI H K D => by
      show (zs5 g l n l.length).ev H K D = _
      unfold zs5
      simp only [Wy.ev_i, Wy.ev_k, Int.ofNat_eq_natCast, lt_nat, le0_nat, decide_true, decide_false, Bool.and_self, Bool.true_and, Bool.and_true, Bool.and_false, Bool.false_and, cond_true, cond_false, Int.toNat_natCast, Bool.not_true, Bool.not_false, Nat.lt_irrefl]) fuel 0 n (by omega) (Nat.zero_le _) (by simpa using hn)
  rw [List.drop_zero, runL_fold, zbpo] at h
  exact h
end
theorem zbrc {l : List (List Term)} {y : List Term} (h : y ∈ l) : sizAnn y ≤ sizAnns l := by
  induction l with
  | nil => cases h
  | cons a r ih =>
    rw [zrq]
    rcases List.mem_cons.1 h with rfl | h
    · omega
    · have := ih h; omega
theorem zbqk {l : List Weighted} {y : Weighted} (h : y ∈ l) : sizAnn y.Ann ≤ zee l := by
  induction l with
  | nil => cases h
  | cons a r ih =>
    rw [zmz]
    rcases List.mem_cons.1 h with rfl | h
    · omega
    · have := ih h; omega
theorem zbo7 {l : List Factor} {y : Factor} (h : y ∈ l) : sizAtom y.Atom ≤ zc1 l := by
  induction l with
  | nil => cases h
  | cons a r ih =>
    rw [zkk]
    rcases List.mem_cons.1 h with rfl | h
    · omega
    · have := ih h; omega
theorem zbri {l : List Term} {y : Term} (h : y ∈ l) : zc1 y.Factors ≤ sizAnn l := by
  induction l with
  | nil => cases h
  | cons a r ih =>
    rw [ztm]
    rcases List.mem_cons.1 h with rfl | h
    · omega
    · have := ih h; omega
theorem siz_sub {a : List Term} {t : Term} {f : Factor} (ht : t ∈ a) (hf : f ∈ t.Factors) : sizAnns f.Atom.Args + zee f.Atom.Items ≤ sizAnn a := by
  have h1 := zbri ht; have h2 := zbo7 hf; rw [zn8] at h2; omega
theorem zbgv {d : Nat} {a : List Term} (h : fineAnn (d + 1) a) {t : Term} (ht : t ∈ a) : t.Factors.length ≤ 1000000 ∧ ∀ f ∈ t.Factors, (f.Atom.Args.length ≤ 1000000 ∧ f.Atom.Items.length ≤ 1000000) ∧ (∀ y ∈ f.Atom.Args, fineAnn d y) ∧ ∀ y ∈ f.Atom.Items, fineAnn d y.Ann :=
  ⟨(h.2 t ht).1, fun f hf => have q := (h.2 t ht).2 f hf; ⟨⟨q.1.1, q.1.2.1⟩, q.2.1, fun y hy => (q.2.2 y hy).2⟩⟩
theorem zbnm : ∀ (n d : Nat) (a : List Term), fineAnn d a → d ≤ n → sizAnn a ≤ 4611686018427387904 → zmv n a = (true, (sizAnn a : Int)) ∧ zuq n a = (true, (sizAnn a : Int))
  | n, 0, a, h, hd, hs => h.elim
  | 0, d + 1, a, h, hd, hs => by omega
  | n + 1, d + 1, a, h, hd, hs => by
    have hg := fun y (hy : fineAnn d y) (hs : sizAnn y ≤ 4611686018427387904) => zbnm n d y hy (by omega) hs
    have hsub : ∀ t ∈ a, t.Factors.length ≤ 1000000 ∧ ∀ f ∈ t.Factors, (f.Atom.Args.length ≤ 1000000 ∧ f.Atom.Items.length ≤ 1000000) ∧ (∀ y ∈ f.Atom.Args, fineAnn d y ∧ sizAnn y ≤ 4611686018427387904) ∧ ∀ y ∈ f.Atom.Items, fineAnn d y.Ann ∧ sizAnn y.Ann ≤ 4611686018427387904 := fun t ht => by
      obtain ⟨h1, h2⟩ := zbgv h ht
      refine ⟨h1, fun f hf => ?_⟩
      obtain ⟨h3, h4, h5⟩ := h2 f hf
      have h6 := siz_sub ht hf
      exact ⟨h3, fun y hy => ⟨h4 y hy, by have := zbrc hy; omega⟩, fun y hy => ⟨h5 y hy, by have := zbqk hy; omega⟩⟩
    constructor
    · rw [zbjg]
      unfold zub zxr
      have h1 := Size_3 (zmv n) a h.1 (fun t ht => ⟨(hsub t ht).1, fun f hf => ⟨((hsub t ht).2 f hf).1, fun y hy => (hg y (((hsub t ht).2 f hf).2.1 y hy).1 (((hsub t ht).2 f hf).2.1 y hy).2).1, fun y hy => (hg _ (((hsub t ht).2 f hf).2.2 y hy).1 (((hsub t ht).2 f hf).2.2 y hy).2).1⟩⟩)
        (Int.toNat 0 + a.length + (Int.ofNat a.length).toNat + Int.toNat 0 + 1) 0 (by omega) (by omega)
      rw [show ((0 : Nat) : Int) = (0 : Int) from rfl, Nat.zero_add] at h1
      rw [Wy.fin_bn, show Int.ofNat a.length = (a.length : Int) from rfl] at *
      rw [h1]; rfl
    · rw [zbn0]
      unfold z6b z7w
      have h1 := RSize_3 (zuq n) a h.1 (fun t ht => ⟨(hsub t ht).1, fun f hf => ⟨((hsub t ht).2 f hf).1, fun y hy => (hg y (((hsub t ht).2 f hf).2.1 y hy).1 (((hsub t ht).2 f hf).2.1 y hy).2).2, fun y hy => (hg _ (((hsub t ht).2 f hf).2.2 y hy).1 (((hsub t ht).2 f hf).2.2 y hy).2).2⟩⟩)
        (a.length + Int.toNat 0 + Int.toNat 0 + 1 + szTs a) 0 (by omega) (by omega)
      rw [show ((0 : Nat) : Int) = (0 : Int) from rfl, Nat.zero_add] at h1
      rw [Wy.fin_bn, h1]; rfl

mutual
def nesAtom : Atom → Nat
  | ⟨k, _, a, _, i, _, _⟩ => if k = 0 then 0 else 1 + max (nesAnns a) (zl7 i)
def zet : List Factor → Nat
  | [] => 0
  | ⟨x, _⟩ :: r => max (nesAtom x) (zet r)
def nesAnn : List Term → Nat
  | [] => 0
  | ⟨_, fs⟩ :: r => max (zet fs) (nesAnn r)
def nesAnns : List (List Term) → Nat
  | [] => 0
  | a :: r => max (nesAnn a) (nesAnns r)
def zl7 : List Weighted → Nat
  | [] => 0
  | ⟨_, a⟩ :: r => max (nesAnn a) (zl7 r)
end
theorem z4p (x : Atom) : nesAtom x = if x.Kind = 0 then 0 else 1 + max (nesAnns x.Args) (zl7 x.Items) := by cases x; rw [nesAtom]
theorem z5a (f : Factor) (r : List Factor) : zet (f :: r) = max (nesAtom f.Atom) (zet r) := by cases f; rw [zet]
theorem zbg0 (t : Term) (r : List Term) : nesAnn (t :: r) = max (zet t.Factors) (nesAnn r) := by cases t; rw [nesAnn]
theorem z56 (a : List Term) (r : List (List Term)) : nesAnns (a :: r) = max (nesAnn a) (nesAnns r) := by rw [nesAnns]
theorem z2w (w : Weighted) (r : List Weighted) : zl7 (w :: r) = max (nesAnn w.Ann) (zl7 r) := by cases w; rw [zl7]
theorem zbg6 : nesAnns [] = 0 := by rw [nesAnns]
theorem zbe1 : zl7 [] = 0 := by rw [zl7]
theorem zbiv : zet [] = 0 := by rw [zet]
theorem zboj : nesAnn [] = 0 := by rw [nesAnn]
theorem zbrw (l : List (List Term)) : ∀ n : Nat, l.foldl (fun s t => max s (nesAnn t)) n = max n (nesAnns l) := by
  induction l with
  | nil => intro n; rw [zbg6]; exact (Nat.max_zero n).symm
  | cons a r ih => intro n; rw [List.foldl_cons, ih, z56]; omega
theorem zbq3 (l : List Weighted) : ∀ n : Nat, l.foldl (fun s t => max s (nesAnn t.Ann)) n = max n (zl7 l) := by
  induction l with
  | nil => intro n; rw [zbe1]; exact (Nat.max_zero n).symm
  | cons a r ih => intro n; rw [List.foldl_cons, ih, z2w]; omega
theorem zbq9 (l : List (List Term)) : ∀ n : Nat, l.foldl (fun s t => max s (1 + nesAnn t)) (1 + n) = 1 + max n (nesAnns l) := by
  induction l with
  | nil => intro n; rw [zbg6]; simp
  | cons a r ih => intro n; rw [List.foldl_cons, show max (1 + n) (1 + nesAnn a) = 1 + max n (nesAnn a) by omega, ih, z56]; omega
theorem zbqx (l : List Weighted) : ∀ n : Nat, l.foldl (fun s t => max s (1 + nesAnn t.Ann)) (1 + n) = 1 + max n (zl7 l) := by
  induction l with
  | nil => intro n; rw [zbe1]; simp
  | cons a r ih => intro n; rw [List.foldl_cons, show max (1 + n) (1 + nesAnn a.Ann) = 1 + max n (nesAnn a.Ann) by omega, ih, z2w]; omega
theorem zbkd (l : List Factor) : ∀ n : Nat, l.foldl (fun s t => max s (nesAtom t.Atom)) n = max n (zet l) := by
  induction l with
  | nil => intro n; rw [zbiv]; exact (Nat.max_zero n).symm
  | cons a r ih => intro n; rw [List.foldl_cons, ih, z5a]; omega
theorem zbpp (l : List Term) : ∀ n : Nat, l.foldl (fun s t => max s (zet t.Factors)) n = max n (nesAnn l) := by
  induction l with
  | nil => intro n; rw [zboj]; exact (Nat.max_zero n).symm
  | cons a r ih => intro n; rw [List.foldl_cons, ih, zbg0]; omega
theorem ifmax (a b : Nat) : (if (a : Int) > (b : Int) then (a : Int) else (b : Int)) = ((max b a : Nat) : Int) := by split <;> omega
theorem zbn1 {d : Nat} : ∀ l : List (List Term), (∀ y ∈ l, nesAnn y ≤ d) → nesAnns l ≤ d := fun l => by
  induction l with
  | nil => intro _; rw [zbg6]; omega
  | cons y r ih => intro hy; rw [z56]; have h1 := hy y (by simp); have h2 := ih fun z hz => hy z (by simp [hz]); omega
theorem zbm8 {d : Nat} : ∀ l : List Weighted, (∀ y ∈ l, nesAnn y.Ann ≤ d) → zl7 l ≤ d := fun l => by
  induction l with
  | nil => intro _; rw [zbe1]; omega
  | cons y r ih => intro hy; rw [z2w]; have h1 := hy y (by simp); have h2 := ih fun z hz => hy z (by simp [hz]); omega
theorem zbp4 {d : Nat} : ∀ l : List Factor, (∀ y ∈ l, nesAtom y.Atom ≤ d) → zet l ≤ d := fun l => by
  induction l with
  | nil => intro _; rw [zbiv]; omega
  | cons y r ih => intro hy; rw [z5a]; have h1 := hy y (by simp); have h2 := ih fun z hz => hy z (by simp [hz]); omega
theorem zbr2 {d : Nat} : ∀ l : List Term, (∀ y ∈ l, zet y.Factors ≤ d) → nesAnn l ≤ d := fun l => by
  induction l with
  | nil => intro _; rw [zboj]; omega
  | cons y r ih => intro hy; rw [zbg0]; have h1 := hy y (by simp); have h2 := ih fun z hz => hy z (by simp [hz]); omega
theorem zbi6 : ∀ (d : Nat) (a : List Term), fineAnn d a → nesAnn a ≤ d
  | 0, a, h => h.elim
  | d + 1, a, h => zbr2 a fun t ht => zbp4 _ fun f hf => by
    obtain ⟨_, h2⟩ := zbgv h ht
    obtain ⟨_, h4, h5⟩ := h2 f hf
    have q1 := zbn1 f.Atom.Args fun y hy => zbi6 d y (h4 y hy)
    have q2 := zbm8 f.Atom.Items fun y hy => zbi6 d y.Ann (h5 y hy)
    rw [z4p]; split <;> omega
section
variable (g : List Term → Bool × Int)
theorem Nes_11 (l : List (List Term)) (hl : l.length ≤ 1000000) (hg : ∀ y ∈ l, g y = (true, (nesAnn y : Int))) (nn : Int) (t13 : List Term) (t14 t15 : Int) (t20 : List Factor) (t21 t22 : Int) (f : Factor) (fuel n : Nat) (hf : l.length < fuel) :
    zyr g fuel nn n t13 t14 t15 t20 t21 t22 l l.length 0 f = (true, (nn, ((max n (nesAnns l) : Nat) : Int), t13, t14, t15, t20, t21, t22, f)) := by
  have h := iter_list (W := zl3 g) (z := default) (l := l) (fun i (n : Nat) => (nn, (), (n : Int), t13, t14, t15, t20, t21, t22, l, (l.length : Int), (i : Int), ())) (fun _ _ => (f, ())) (fun y n => .inl (max n (nesAnn y))) (fun n => (nn, (n : Int), t13, t14, t15, t20, t21, t22, f)) (fun i n => True)
    (fun i n hi hI => .inl ⟨_, rfl, trivial, fun H K D => by
      show (zir g nn n t13 t14 t15 t20 t21 t22 l l.length i f).ev H K D = _
      unfold zir
      simp only [Wy.ev_i, Wy.ev_k, Wy.ev_h, Wy.ev_bn, Wy.ev_d, Int.ofNat_eq_natCast, lt_nat, le0_nat, decide_true, decide_false, Bool.and_self, Bool.true_and, Bool.and_true, Bool.and_false, Bool.false_and, cond_true, cond_false, Int.toNat_natCast, Bool.not_true, Bool.not_false, hi, hg _ (getD_mem hi), ifmax]
      rw [wrap_le (by omega)]⟩)
    (fun n hI H K D => by
      show (zir g nn n t13 t14 t15 t20 t21 t22 l l.length l.length f).ev H K D = _
      unfold zir
      simp only [Wy.ev_i, Wy.ev_k, Int.ofNat_eq_natCast, lt_nat, le0_nat, decide_true, decide_false, Bool.and_self, Bool.true_and, Bool.and_true, Bool.and_false, Bool.false_and, cond_true, cond_false, Int.toNat_natCast, Bool.not_true, Bool.not_false, Nat.lt_irrefl]) fuel 0 n (by omega) (Nat.zero_le _) trivial
  rw [List.drop_zero, runL_fold, zbrw] at h
  exact h
theorem Nes_16 (l : List Weighted) (hl : l.length ≤ 1000000) (hg : ∀ y ∈ l, g y.Ann = (true, (nesAnn y.Ann : Int))) (nn : Int) (t13 : List Term) (t14 t15 : Int) (t20 : List Factor) (t21 t22 : Int) (fuel n : Nat) (hf : l.length < fuel) :
    zyw g fuel nn n t13 t14 t15 t20 t21 t22 l l.length 0 = (true, (nn, ((max n (zl7 l) : Nat) : Int), t13, t14, t15, t20, t21, t22)) := by
  have h := iter_list (W := zmi g) (z := default) (l := l) (fun i (n : Nat) => (nn, (n : Int), t13, t14, t15, t20, t21, t22, l, (l.length : Int), (i : Int), ())) (fun _ _ => ()) (fun y n => .inl (max n (nesAnn y.Ann))) (fun n => (nn, (n : Int), t13, t14, t15, t20, t21, t22)) (fun i n => True)
    (fun i n hi hI => .inl ⟨_, rfl, trivial, fun H K D => by
      show (zil g nn n t13 t14 t15 t20 t21 t22 l l.length i).ev H K D = _
      unfold zil
      simp only [Wy.ev_i, Wy.ev_k, Wy.ev_h, Wy.ev_bn, Wy.ev_d, Int.ofNat_eq_natCast, lt_nat, le0_nat, decide_true, decide_false, Bool.and_self, Bool.true_and, Bool.and_true, Bool.and_false, Bool.false_and, cond_true, cond_false, Int.toNat_natCast, Bool.not_true, Bool.not_false, hi, hg _ (getD_mem hi), ifmax]
      rw [wrap_le (by omega)]⟩)
    (fun n hI H K D => by
      show (zil g nn n t13 t14 t15 t20 t21 t22 l l.length l.length).ev H K D = _
      unfold zil
      simp only [Wy.ev_i, Wy.ev_k, Int.ofNat_eq_natCast, lt_nat, le0_nat, decide_true, decide_false, Bool.and_self, Bool.true_and, Bool.and_true, Bool.and_false, Bool.false_and, cond_true, cond_false, Int.toNat_natCast, Bool.not_true, Bool.not_false, Nat.lt_irrefl]) fuel 0 n (by omega) (Nat.zero_le _) trivial
  rw [List.drop_zero, runL_fold, zbq3] at h
  exact h
def NesG (x : Atom) : Prop := (x.Args.length ≤ 1000000 ∧ x.Items.length ≤ 1000000) ∧ (nesAtom x ≤ 1000 ∧ (∀ y ∈ x.Args, nesAnn y ≤ 1000) ∧ ∀ y ∈ x.Items, nesAnn y.Ann ≤ 1000) ∧ (∀ y ∈ x.Args, g y = (true, (nesAnn y : Int))) ∧ ∀ y ∈ x.Items, g y.Ann = (true, (nesAnn y.Ann : Int))
theorem Nes_6 (l : List Factor) (hl : l.length ≤ 1000000) (hg : ∀ f ∈ l, NesG g f.Atom) (t13 : List Term) (t14 t15 : Int) (fuel n : Nat) (hf : l.length < fuel) :
    z0q g fuel n t13 t14 t15 l l.length 0 = (true, (((max n (zet l) : Nat) : Int), t13, t14, t15)) := by
  have h := iter_list (W := zng g) (z := default) (l := l) (fun i (n : Nat) => ((n : Int), t13, t14, t15, l, (l.length : Int), (i : Int), ())) (fun _ _ => ()) (fun y n => .inl (max n (nesAtom y.Atom))) (fun n => ((n : Int), t13, t14, t15)) (fun i n => True)
    (fun i n hi hI => .inl ⟨_, rfl, trivial, fun H K D => by
      obtain ⟨⟨h1, h2⟩, ⟨h5, _, _⟩, h3, h4⟩ := hg _ (getD_mem hi)
      show (zjr g n t13 t14 t15 l l.length i).ev H K D = _
      unfold zjr
      simp only [Wy.ev_i, Wy.ev_k, Wy.ev_h, Wy.ev_bn, Wy.ev_d, Int.ofNat_eq_natCast, lt_nat, le0_nat, decide_true, decide_false, Bool.and_self, Bool.true_and, Bool.and_true, Bool.and_false, Bool.false_and, cond_true, cond_false, Int.toNat_natCast, Bool.not_true, Bool.not_false, hi, Atom.eta]
      generalize l.getD i default = f at *
      rw [z4p] at h5 ⊢
      by_cases hk : f.Atom.Kind = 0
      · have e : (f.Atom.Kind == 0) = true := by simp [hk]
        simp only [e, cond_true]
        rw [if_pos hk, Nat.max_zero, wrap_le (by omega)]
      · have e : (f.Atom.Kind == 0) = false := by simp [hk]
        simp only [e, cond_false]
        rw [if_neg hk] at h5 ⊢
        have q := fun fuel hf => Nes_11 g _ h1 h3 n t13 t14 t15 l l.length i f fuel 0 hf
        rw [Nat.zero_max, show ((0 : Nat) : Int) = (0 : Int) from rfl] at q
        rw [q _ (by omega)]
        simp only [cond_true, Int.toNat_natCast]
        rw [Nes_16 g _ h2 h4 n t13 t14 t15 l l.length i _ _ (by omega)]
        simp only [cond_true]
        rw [wrap_le (by omega), show (1 : Int) = ((1 : Nat) : Int) from rfl, ztd (n := 1) (by omega), ifmax]⟩)
    (fun n hI H K D => by
      show (zjr g n t13 t14 t15 l l.length l.length).ev H K D = _
      unfold zjr
      simp only [Wy.ev_i, Wy.ev_k, Int.ofNat_eq_natCast, lt_nat, le0_nat, decide_true, decide_false, Bool.and_self, Bool.true_and, Bool.and_true, Bool.and_false, Bool.false_and, cond_true, cond_false, Int.toNat_natCast, Bool.not_true, Bool.not_false, Nat.lt_irrefl]) fuel 0 n (by omega) (Nat.zero_le _) trivial
  rw [List.drop_zero, runL_fold, zbkd] at h
  exact h
theorem Nes_3 (l : List Term) (hl : l.length ≤ 1000000) (hg : ∀ t ∈ l, t.Factors.length ≤ 1000000 ∧ ∀ f ∈ t.Factors, NesG g f.Atom) (fuel n : Nat) (hf : l.length < fuel) :
    z0m g fuel n l l.length 0 = (true, ((max n (nesAnn l) : Nat) : Int)) := by
  have h := iter_list (W := znd g) (z := default) (l := l) (fun i (n : Nat) => ((n : Int), l, (l.length : Int), (i : Int), ())) (fun _ _ => ()) (fun y n => .inl (max n (zet y.Factors))) (fun n => (n : Int)) (fun i n => True)
    (fun i n hi hI => .inl ⟨_, rfl, trivial, fun H K D => by
      obtain ⟨h1, h3⟩ := hg _ (getD_mem hi)
      show (zjs g n l l.length i).ev H K D = _
      unfold zjs
      simp only [Wy.ev_i, Wy.ev_k, Wy.ev_h, Wy.ev_bn, Wy.ev_d, Int.ofNat_eq_natCast, lt_nat, le0_nat, decide_true, decide_false, Bool.and_self, Bool.true_and, Bool.and_true, Bool.and_false, Bool.false_and, cond_true, cond_false, Int.toNat_natCast, Bool.not_true, Bool.not_false, hi, Atom.eta]
      rw [Nes_6 g _ h1 h3 _ _ _ _ _ (by omega)]
      simp only [cond_true]
      rw [wrap_le (by omega)]⟩)
    (fun n hI H K D => by
      show (zjs g n l l.length l.length).ev H K D = _
      unfold zjs
      simp only [Wy.ev_i, Wy.ev_k, Int.ofNat_eq_natCast, lt_nat, le0_nat, decide_true, decide_false, Bool.and_self, Bool.true_and, Bool.and_true, Bool.and_false, Bool.false_and, cond_true, cond_false, Int.toNat_natCast, Bool.not_true, Bool.not_false, Nat.lt_irrefl]) fuel 0 n (by omega) (Nat.zero_le _) trivial
  rw [List.drop_zero, runL_fold, zbpp] at h
  exact h
theorem RNes_12 (x : Atom) (hx : NesG g x) (a : List Term) (most i k : Int) (fuel n : Nat) (hf : x.Args.length < fuel) :
    zxm g fuel a most i k ((1 + n : Nat) : Int) 0 x = (true, (a, most, i, k, ((1 + max n (nesAnns x.Args) : Nat) : Int), x)) := by
  obtain ⟨⟨h1, h2⟩, ⟨h5, h6, h7⟩, h3, h4⟩ := hx
  have h := iter_list (W := zr3 g) (z := default) (l := x.Args) (fun j (n : Nat) => (a, most, i, k, (), (n : Int), (j : Int), ())) (fun _ _ => (x, ())) (fun y n => .inl (max n (1 + nesAnn y))) (fun n => (a, most, i, k, (n : Int), x)) (fun i n => True)
    (fun j n hi hI => .inl ⟨_, rfl, trivial, fun H K D => by
      have h8 := h6 _ (getD_mem hi)
      show (znk g a most i k n j x).ev H K D = _
      unfold znk
      simp only [Wy.ev_i, Wy.ev_k, Wy.ev_h, Wy.ev_bn, Wy.ev_d, Int.ofNat_eq_natCast, lt_nat, le0_nat, decide_true, decide_false, Bool.and_self, Bool.true_and, Bool.and_true, Bool.and_false, Bool.false_and, cond_true, cond_false, Int.toNat_natCast, Bool.not_true, Bool.not_false, hi, h3 _ (getD_mem hi)]
      rw [wrap_le (by omega), show (1 : Int) = ((1 : Nat) : Int) from rfl, ztd (n := 1) (by omega), ifmax]⟩)
    (fun n hI H K D => by
      show (znk g a most i k n x.Args.length x).ev H K D = _
      unfold znk
      simp only [Wy.ev_i, Wy.ev_k, Int.ofNat_eq_natCast, lt_nat, le0_nat, decide_true, decide_false, Bool.and_self, Bool.true_and, Bool.and_true, Bool.and_false, Bool.false_and, cond_true, cond_false, Int.toNat_natCast, Bool.not_true, Bool.not_false, Nat.lt_irrefl]) fuel 0 (1 + n) (by omega) (Nat.zero_le _) trivial
  rw [List.drop_zero, runL_fold, zbq9] at h
  exact h
theorem RNes_16 (x : Atom) (hx : NesG g x) (a : List Term) (most i k : Int) (fuel n : Nat) (hf : x.Items.length < fuel) :
    z6p g fuel a most i k ((1 + n : Nat) : Int) 0 x = (true, (a, most, i, k, ((1 + max n (zl7 x.Items) : Nat) : Int))) := by
  obtain ⟨⟨h1, h2⟩, ⟨h5, h6, h7⟩, h3, h4⟩ := hx
  have h := iter_list (W := zr2 g) (z := default) (l := x.Items) (fun j (n : Nat) => (a, most, i, k, (), (n : Int), (j : Int), ())) (fun _ _ => (x, ())) (fun y n => .inl (max n (1 + nesAnn y.Ann))) (fun n => (a, most, i, k, (n : Int))) (fun i n => True)
    (fun j n hi hI => .inl ⟨_, rfl, trivial, fun H K D => by
      have h8 := h7 _ (getD_mem hi)
      show (znt g a most i k n j x).ev H K D = _
      unfold znt
      simp only [Wy.ev_i, Wy.ev_k, Wy.ev_h, Wy.ev_bn, Wy.ev_d, Int.ofNat_eq_natCast, lt_nat, le0_nat, decide_true, decide_false, Bool.and_self, Bool.true_and, Bool.and_true, Bool.and_false, Bool.false_and, cond_true, cond_false, Int.toNat_natCast, Bool.not_true, Bool.not_false, hi, h4 _ (getD_mem hi)]
      rw [wrap_le (by omega), show (1 : Int) = ((1 : Nat) : Int) from rfl, ztd (n := 1) (by omega), ifmax]⟩)
    (fun n hI H K D => by
      show (znt g a most i k n x.Items.length x).ev H K D = _
      unfold znt
      simp only [Wy.ev_i, Wy.ev_k, Int.ofNat_eq_natCast, lt_nat, le0_nat, decide_true, decide_false, Bool.and_self, Bool.true_and, Bool.and_true, Bool.and_false, Bool.false_and, cond_true, cond_false, Int.toNat_natCast, Bool.not_true, Bool.not_false, Nat.lt_irrefl]) fuel 0 (1 + n) (by omega) (Nat.zero_le _) trivial
  rw [List.drop_zero, runL_fold, zbqx] at h
  exact h
theorem RNes_12' (x : Atom) (hx : NesG g x) (a : List Term) (most i k : Int) (fuel : Nat) (hf : x.Args.length < fuel) : zxm g fuel a most i k 1 0 x = (true, (a, most, i, k, ((1 + nesAnns x.Args : Nat) : Int), x)) := by
  have h := RNes_12 g x hx a most i k fuel 0 hf
  rw [Nat.zero_max] at h; exact h
theorem RNes_6 (a : List Term) (i : Nat) (hi : i < a.length) (hla : a.length ≤ 1000000) (l : List Factor) (el : (a.getD i default).Factors = l) (hl : l.length ≤ 1000000) (hg : ∀ f ∈ l, NesG g f.Atom) (fuel n : Nat) (hf : l.length < fuel) :
    zbaa g fuel a n i 0 = (true, (a, ((max n (zet l) : Nat) : Int), (i : Int))) := by
  have h := iter_list (W := zs8 g) (z := default) (l := l) (fun k (n : Nat) => (a, (n : Int), (i : Int), (k : Int), ())) (fun _ _ => ()) (fun y n => .inl (max n (nesAtom y.Atom))) (fun n => (a, (n : Int), (i : Int))) (fun k n => True)
    (fun k n hk hI => .inl ⟨_, rfl, trivial, fun H K D => by
      have hx := hg _ (getD_mem hk)
      have h5 := hx.2.1.1
      show (zo5 g a n i k).ev H K D = _
      unfold zo5
      simp only [Wy.ev_i, Wy.ev_k, Wy.ev_h, Wy.ev_bn, Wy.ev_d, Int.ofNat_eq_natCast, lt_nat, le0_nat, decide_true, decide_false, Bool.and_self, Bool.true_and, Bool.and_true, Bool.and_false, Bool.false_and, cond_true, cond_false, Int.toNat_natCast, Bool.not_true, Bool.not_false, hi, el, hk, Atom.eta]
      generalize l.getD k default = f at *
      rw [z4p] at h5 ⊢
      by_cases hz : f.Atom.Kind = 0
      · have e : (f.Atom.Kind == 0) = true := by simp [hz]
        simp only [e, cond_true]
        rw [if_pos hz, Nat.max_zero, wrap_le (by omega)]
      · have e : (f.Atom.Kind == 0) = false := by simp [hz]
        have hx1 := hx.1
        simp only [e, cond_false]
        rw [if_neg hz] at h5 ⊢
        rw [RNes_12' g _ hx _ _ _ _ _ (by omega)]
        simp only [cond_true, Int.toNat_natCast, Atom.eta]
        rw [RNes_16 g _ hx _ _ _ _ _ _ (by omega)]
        simp only [cond_true]
        rw [wrap_le (by omega), ifmax]⟩)
    (fun n hI H K D => by
      show (zo5 g a n i l.length).ev H K D = _
      unfold zo5
      simp only [Wy.ev_i, Wy.ev_k, Int.ofNat_eq_natCast, lt_nat, le0_nat, decide_true, decide_false, Bool.and_self, Bool.true_and, Bool.and_true, Bool.and_false, Bool.false_and, cond_true, cond_false, Int.toNat_natCast, Bool.not_true, Bool.not_false, hi, el, Nat.lt_irrefl]) fuel 0 n (by omega) (Nat.zero_le _) trivial
  rw [List.drop_zero, runL_fold, zbkd] at h
  exact h
theorem RNes_3 (l : List Term) (hl : l.length ≤ 1000000) (hg : ∀ t ∈ l, t.Factors.length ≤ 1000000 ∧ ∀ f ∈ t.Factors, NesG g f.Atom) (fuel n : Nat) (hf : l.length < fuel) :
    z9i g fuel l n 0 = (true, ((max n (nesAnn l) : Nat) : Int)) := by
  have h := iter_list (W := zs4 g) (z := default) (l := l) (fun i (n : Nat) => (l, (n : Int), (i : Int), ())) (fun _ _ => ()) (fun y n => .inl (max n (zet y.Factors))) (fun n => (n : Int)) (fun i n => True)
    (fun i n hi hI => .inl ⟨_, rfl, trivial, fun H K D => by
      obtain ⟨h1, h3⟩ := hg _ (getD_mem hi)
      have hz := zbja l i hi
      show (zox g l n i).ev H K D = _
      unfold zox
      simp only [Wy.ev_i, Wy.ev_k, Wy.ev_h, Wy.ev_bn, Wy.ev_d, Int.ofNat_eq_natCast, lt_nat, le0_nat, decide_true, decide_false, Bool.and_self, Bool.true_and, Bool.and_true, Bool.and_false, Bool.false_and, cond_true, cond_false, Int.toNat_natCast, Bool.not_true, Bool.not_false, hi, Atom.eta]
      rw [RNes_6 g l i hi hl _ rfl h1 h3 _ _ (by omega)]
      simp only [cond_true]
      rw [wrap_le (by omega)]⟩)
    (fun n hI H K D => by
      show (zox g l n l.length).ev H K D = _
      unfold zox
      simp only [Wy.ev_i, Wy.ev_k, Int.ofNat_eq_natCast, lt_nat, le0_nat, decide_true, decide_false, Bool.and_self, Bool.true_and, Bool.and_true, Bool.and_false, Bool.false_and, cond_true, cond_false, Int.toNat_natCast, Bool.not_true, Bool.not_false, Nat.lt_irrefl]) fuel 0 n (by omega) (Nat.zero_le _) trivial
  rw [List.drop_zero, runL_fold, zbpp] at h
  exact h
end
theorem Nes_all : ∀ (n d : Nat) (a : List Term), fineAnn d a → d ≤ n → d ≤ 100 → zga n a = (true, (nesAnn a : Int)) ∧ zmj n a = (true, (nesAnn a : Int))
  | n, 0, a, h, hd, hs => h.elim
  | 0, d + 1, a, h, hd, hs => by omega
  | n + 1, d + 1, a, h, hd, hs => by
    have hg := fun y (hy : fineAnn d y) => Nes_all n d y hy (by omega) (by omega)
    have hsub : ∀ t ∈ a, t.Factors.length ≤ 1000000 ∧ ∀ f ∈ t.Factors, NesG (zga n) f.Atom ∧ NesG (zmj n) f.Atom := fun t ht => by
      obtain ⟨h1, h2⟩ := zbgv h ht
      refine ⟨h1, fun f hf => ?_⟩
      obtain ⟨h3, h4, h5⟩ := h2 f hf
      have q1 : ∀ y ∈ f.Atom.Args, nesAnn y ≤ d := fun y hy => zbi6 d y (h4 y hy)
      have q2 : ∀ y ∈ f.Atom.Items, nesAnn y.Ann ≤ d := fun y hy => zbi6 d y.Ann (h5 y hy)
      have q3 : nesAtom f.Atom ≤ 1000 := by
        have r1 := zbn1 _ q1; have r2 := zbm8 _ q2
        rw [z4p]; split <;> omega
      have q4 : nesAtom f.Atom ≤ 1000 ∧ (∀ y ∈ f.Atom.Args, nesAnn y ≤ 1000) ∧ ∀ y ∈ f.Atom.Items, nesAnn y.Ann ≤ 1000 := ⟨q3, fun y hy => by have := q1 y hy; omega, fun y hy => by have := q2 y hy; omega⟩
      exact ⟨⟨h3, q4, fun y hy => (hg y (h4 y hy)).1, fun y hy => (hg _ (h5 y hy)).1⟩, ⟨h3, q4, fun y hy => (hg y (h4 y hy)).2, fun y hy => (hg _ (h5 y hy)).2⟩⟩
    constructor
    · rw [zbfd]
      unfold zqt ztn
      have h1 := Nes_3 (zga n) a h.1 (fun t ht => ⟨(hsub t ht).1, fun f hf => ((hsub t ht).2 f hf).1⟩) (Int.toNat 0 + a.length + (Int.ofNat a.length).toNat + Int.toNat 0 + 1) 0 (by omega)
      rw [show ((0 : Nat) : Int) = (0 : Int) from rfl, Nat.zero_max] at h1
      rw [Wy.fin_bn, show Int.ofNat a.length = (a.length : Int) from rfl] at *
      rw [h1]; rfl
    · rw [zbl7]
      unfold zx0 z1o
      have h1 := RNes_3 (zmj n) a h.1 (fun t ht => ⟨(hsub t ht).1, fun f hf => ((hsub t ht).2 f hf).2⟩) (a.length + Int.toNat 0 + Int.toNat 0 + 1 + szTs a) 0 (by omega)
      rw [show ((0 : Nat) : Int) = (0 : Int) from rfl, Nat.zero_max] at h1
      rw [Wy.fin_bn, h1]; rfl

theorem zyz (x y : Int) : ze6 x y = (true, cmpI x y) := by
  unfold ze6 z1n zsx z4r cmpI
  by_cases h1 : x < y
  · simp [h1, Wy.fin_i, Wy.fin_k]
  · by_cases h2 : y < x <;> simp [h1, h2, Wy.fin_i, Wy.fin_k]
theorem zv3 (x y : Int) : zkd x y = (true, cmpI x y) := by
  unfold zkd zxl zpe z1h cmpI
  by_cases h1 : x < y
  · simp [h1, Wy.fin_i, Wy.fin_k]
  · by_cases h2 : y < x <;> simp [h1, h2, Wy.fin_i, Wy.fin_k]
def firstNZ : List Int → Int
  | [] => 0
  | x :: r => if x = 0 then firstNZ r else x
theorem Or_loop (l : List Int) (hl : l.length ≤ 1000000) : ∀ (n i : Nat), l.length < i + n → i ≤ l.length → ∃ r, zbbb n 0 l l.length i = (true, r) ∧ (r = .inl (firstNZ (l.drop i)) ∨ (r = .inr 0 ∧ firstNZ (l.drop i) = 0))
  | 0, i, h, h2 => by omega
  | n + 1, i, h, h2 => by
    show ∃ r, (zbaw 0 l l.length i).ev (fun x y => zbbb n x.1 x.2.1 x.2.2.1 x.2.2.2.1) (fun r => (true, r)) (false, .inl default) = (true, r) ∧ _
    unfold zbaw
    by_cases hi : i < l.length
    · simp only [Wy.ev_i, Wy.ev_k, Wy.ev_h, Int.ofNat_eq_natCast, lt_nat, le0_nat, decide_true, decide_false, Bool.and_self, Bool.true_and, Bool.and_true, cond_true, cond_false, Int.toNat_natCast, Bool.not_true, Bool.not_false, hi]
      obtain ⟨r, h1, h3⟩ := Or_loop l hl n (i + 1) (by omega) (by omega)
      rw [drop_lt hi, wrap_succ (by omega), h1]
      generalize l.getD i default = x
      by_cases hx : x = 0
      · have e : (x != 0) = false := by simp [hx]
        simp only [e, cond_false, firstNZ, hx, if_true]
        exact ⟨r, rfl, h3⟩
      · have e : (x != 0) = true := by simp [hx]
        simp only [e, cond_true, firstNZ, hx, if_false]
        exact ⟨_, rfl, .inl rfl⟩
    · simp only [Wy.ev_i, Wy.ev_k, Wy.ev_h, Int.ofNat_eq_natCast, lt_nat, le0_nat, decide_true, decide_false, Bool.and_self, Bool.true_and, Bool.and_true, cond_true, cond_false, Int.toNat_natCast, Bool.not_true, Bool.not_false, hi, drop_ge hi]
      exact ⟨_, rfl, .inr ⟨rfl, rfl⟩⟩
theorem zws (l : List Int) (hl : l.length ≤ 1000000) : zqq l = (true, firstNZ l) := by
  unfold zqq zbew
  obtain ⟨r, h1, h2⟩ := Or_loop l hl (Int.toNat 0 + l.length + (Int.ofNat l.length).toNat + Int.toNat 0 + 1) 0 (by simp; omega) (by omega)
  rw [show ((0 : Nat) : Int) = (0 : Int) from rfl] at h1
  rw [Wy.fin_bn, show Int.ofNat l.length = (l.length : Int) from rfl] at *
  rw [h1]
  rw [List.drop_zero] at h2
  rcases h2 with rfl | ⟨rfl, h2⟩
  · rfl
  · rw [h2]; rfl

section
variable {α : Type}
def lexG (c : α → α → Int) : List α → List α → Int
  | [], [] => 0
  | [], _ :: _ => -1
  | _ :: _, [] => 1
  | x :: a, y :: b => if c x y = 0 then lexG c a b else c x y
theorem zbf0 (e : α → TT) {c : α → α → Int} : ∀ (a b : List α), (∀ x ∈ a, ∀ y ∈ b, c x y = cmpT (e x) (e y)) → lexG c a b = cmpL (a.map e) (b.map e)
  | [], [], _ => by simp only [lexG, List.map, cmpL]
  | [], _ :: _, _ => by simp only [lexG, List.map, cmpL]
  | _ :: _, [], _ => by simp only [lexG, List.map, cmpL]
  | x :: a, y :: b, h => by
    simp only [lexG, List.map, cmpL]
    rw [h x (by simp) y (by simp), zbf0 e a b fun x hx y hy => h x (by simp [hx]) y (by simp [hy])]
variable [Inhabited α]
def CF_W2 (g : α → α → Bool × Int) (s1 : List α) (s2 : List α) (t11 : List α) (t12 : Int) (t13 : Int) : Wy (List α × List α × Unit × List α × Int × Int × Unit) (Unit) (Int ⊕ (List α × List α)) := .i (decide (t13 < t12)) (.i (decide ((0 : Int) ≤ t13) && decide (t13 < Int.ofNat t11.length)) (.i (decide (t13 ≥ Int.ofNat s2.length)) (.k (.inl (1 : Int))) (.i (decide ((0 : Int) ≤ t13) && decide (t13 < Int.ofNat s2.length)) (.bn (g (t11.getD t13.toNat default) (s2.getD t13.toNat default)) fun r0 => .i (r0 != (0 : Int)) (.k (.inl (r0))) (.h (s1, s2, (), t11, t12, (IntKind.i64.wrap (t13 + (1 : Int))), ()) ())) .d)) .d) (.k (.inr (s1, s2)))
def CF_w2 (g : α → α → Bool × Int) (x : List α × List α × Unit × List α × Int × Int × Unit) (y : Unit) : Wy (List α × List α × Unit × List α × Int × Int × Unit) (Unit) (Int ⊕ (List α × List α)) := CF_W2 g x.1 x.2.1 x.2.2.2.1 x.2.2.2.2.1 x.2.2.2.2.2.1
def CF_L2 (g : α → α → Bool × Int) (n : Nat) (s1 : List α) (s2 : List α) (t11 : List α) (t12 : Int) (t13 : Int) : Bool × (Int ⊕ (List α × List α)) := iterW (CF_w2 g) (.inl default) n (s1, s2, (), t11, t12, t13, ()) ()
def CF (g : α → α → Bool × Int) (s1 s2 : List α) : Bool × Int := (.bn (CF_L2 g (s1.length + s2.length + s1.length + (Int.ofNat s1.length).toNat + Int.toNat (0 : Int) + (1 : Nat)) s1 s2 s1 (Int.ofNat s1.length) (0 : Int)) fun r2 => .i (isL r2) (.k (getL r2)) (.i (decide (Int.ofNat (getR r2).fst.length < Int.ofNat (getR r2).snd.length)) (.k (-1 : Int)) (.k (0 : Int))) : Wy0 Int).fin default
theorem CF_loop (g : α → α → Bool × Int) (c : α → α → Int) (a b : List α) (ha : a.length ≤ 1000000) (hg : ∀ x ∈ a, ∀ y ∈ b, g x y = (true, c x y)) : ∀ (n i : Nat), a.length < i + n → i ≤ a.length → i ≤ b.length →
    ∃ r, CF_L2 g n a b a a.length i = (true, r) ∧ ((r = .inl (lexG c (a.drop i) (b.drop i))) ∨ (r = .inr (a, b) ∧ lexG c (a.drop i) (b.drop i) = if a.length < b.length then -1 else 0))
  | 0, i, h, h2, h3 => by omega
  | n + 1, i, h, h2, h3 => by
    show ∃ r, (CF_W2 g a b a a.length i).ev (fun x y => CF_L2 g n x.1 x.2.1 x.2.2.2.1 x.2.2.2.2.1 x.2.2.2.2.2.1) (fun r => (true, r)) (false, .inl default) = (true, r) ∧ _
    unfold CF_W2
    by_cases hi : i < a.length
    · by_cases hi' : i < b.length
      · have hg' : ¬ b.length ≤ i := by omega
        simp only [Wy.ev_i, Wy.ev_k, Wy.ev_h, Wy.ev_bn, Wy.ev_d, Int.ofNat_eq_natCast, lt_nat, le0_nat, decide_true, decide_false, Bool.and_self, Bool.true_and, Bool.and_true, cond_true, cond_false, Int.toNat_natCast, Bool.not_true, Bool.not_false, hi, hi', ge_nat, hg', hg _ (getD_mem hi) _ (getD_mem hi')]
        rw [drop_lt hi, drop_lt hi', wrap_succ (by omega)]
        simp only [lexG]
        generalize c (a.getD i default) (b.getD i default) = z
        by_cases hx : z = 0
        · have e : (z != 0) = false := by simp [hx]
          simp only [e, cond_false, hx, if_true]
          exact CF_loop g c a b ha hg n (i + 1) (by omega) (by omega) (by omega)
        · have e : (z != 0) = true := by simp [hx]
          simp only [e, cond_true, hx, if_false]
          exact ⟨_, rfl, .inl rfl⟩
      · have hg' : b.length ≤ i := by omega
        simp only [Wy.ev_i, Wy.ev_k, Wy.ev_h, Wy.ev_bn, Wy.ev_d, Int.ofNat_eq_natCast, lt_nat, le0_nat, decide_true, decide_false, Bool.and_self, Bool.true_and, Bool.and_true, cond_true, cond_false, Int.toNat_natCast, Bool.not_true, Bool.not_false, hi, ge_nat, hg']
        refine ⟨_, rfl, .inl ?_⟩
        rw [drop_lt hi, drop_ge hi']; rfl
    · simp only [Wy.ev_i, Wy.ev_k, Wy.ev_h, Wy.ev_bn, Wy.ev_d, Int.ofNat_eq_natCast, lt_nat, le0_nat, decide_true, decide_false, Bool.and_self, Bool.true_and, Bool.and_true, cond_true, cond_false, Int.toNat_natCast, Bool.not_true, Bool.not_false, hi]
      refine ⟨_, rfl, .inr ⟨rfl, ?_⟩⟩
      rw [drop_ge hi]
      by_cases hi' : i < b.length
      · rw [drop_lt hi', if_pos (by omega)]; rfl
      · rw [drop_ge hi', if_neg (by omega)]; rfl
theorem CF_eq (g : α → α → Bool × Int) (c : α → α → Int) (a b : List α) (ha : a.length ≤ 1000000) (hg : ∀ x ∈ a, ∀ y ∈ b, g x y = (true, c x y)) : CF g a b = (true, lexG c a b) := by
  unfold CF
  obtain ⟨r, h1, h2⟩ := CF_loop g c a b ha hg (a.length + b.length + a.length + (Int.ofNat a.length).toNat + Int.toNat 0 + 1) 0 (by simp; omega) (by omega) (by omega)
  rw [show ((0 : Nat) : Int) = (0 : Int) from rfl] at h1
  rw [Wy.fin_bn, show Int.ofNat a.length = (a.length : Int) from rfl] at *
  rw [h1]
  simp only [List.drop_zero] at h2
  rcases h2 with rfl | ⟨rfl, h2⟩
  · rfl
  · rw [h2]
    simp only [Wy.fin_i, Wy.fin_k, Int.ofNat_eq_natCast, lt_nat, le0_nat, decide_true, decide_false, Bool.and_self, Bool.true_and, Bool.and_true, cond_true, cond_false, Int.toNat_natCast, Bool.not_true, Bool.not_false, isL, getR]
    by_cases h3 : a.length < b.length <;> simp [h3]
end
theorem CF_tree {α : Type} [Inhabited α] (e : α → TT) (g : α → α → Bool × Int) (a b : List α) (ha : a.length ≤ 1000000) (hg : ∀ x ∈ a, ∀ y ∈ b, g x y = (true, cmpT (e x) (e y))) : CF g a b = (true, cmpL (a.map e) (b.map e)) := by
  rw [CF_eq g (fun x y => cmpT (e x) (e y)) a b ha hg, zbf0 e a b fun _ _ _ _ => rfl]

theorem Factor.eta2 (x : Factor) : (FactorOf.mk (Atom.mk x.Atom.Kind x.Atom.Row x.Atom.Args x.Atom.Func x.Atom.Items x.Atom.Op x.Atom.Bound) x.Exp : Factor) = x := by rw [Atom.eta]
theorem zbsd (g) : zbx g = CF g := rfl
theorem zbro (g) : zbs g = CF g := by
  have h : zbn g = CF_w2 g := by
    funext x y
    unfold zbn zd2 CF_w2 CF_W2
    rw [Factor.eta2, Factor.eta2]
  funext a b
  unfold zbs zcj zd3
  rw [h]; rfl
theorem CF_anns (g) : zbo g = CF g := rfl
theorem zbsr (g) : zbw g = CF g := rfl

theorem zbdi (a b : Value) : zsw a b = (true, cmpT (trV a) (trV b)) := by
  unfold zsw z48
  have h : (strings_Compare a.Text b.Text).2 = cmpT (trB a.Text) (trB b.Text) := by rw [← trB_cmp]; rfl
  simp only [zyz, zv3, Wy.fin_bn, cond_true, h]
  rw [zws _ (by simp)]
  simp only [Wy.fin_k, cond_true, trV, cmpT, cmpL, firstNZ]
  rfl
theorem zbsu (x y x' y' : TT) : firstNZ [cmpT x x', cmpT y y'] = cmpL [x, y] [x', y'] := by simp only [firstNZ, cmpL]

theorem cmp_all : ∀ n,
    (∀ d a b, fineAnn d a → 10 * d ≤ n → zf5 n a b = (true, cmpL (trAnn a) (trAnn b))) ∧
    (∀ d a b, fineAnn d a → 10 * d ≤ n + 1 → zbp n a b = (true, cmpL (trAnn a) (trAnn b))) ∧
    (∀ d x y, zku (fineAnn d) x.Factors → 10 * d + 10 ≤ n + 2 → zf2 n x y = (true, cmpT (trTerm x) (trTerm y))) ∧
    (∀ d x y, zku (fineAnn d) x.Factors → 10 * d + 10 ≤ n + 3 → zhg n x y = (true, cmpL (zco x.Factors) (zco y.Factors))) ∧
    (∀ d l l', zku (fineAnn d) l → 10 * d + 10 ≤ n + 4 → zbu n l l' = (true, cmpL (zco l) (zco l'))) ∧
    (∀ d x y, zg9 (fineAnn d) x.Atom → 10 * d + 10 ≤ n + 5 → zev n x y = (true, cmpT (zrf x) (zrf y))) ∧
    (∀ d x y, zg9 (fineAnn d) x → 10 * d + 10 ≤ n + 6 → zhp n x y = (true, cmpT (trAtom x) (trAtom y))) ∧
    (∀ d a b, a.length ≤ 1000000 → (∀ x ∈ a, fineAnn d x) → 10 * d + 10 ≤ n + 7 → zbd n a b = (true, cmpL (trAnns a) (trAnns b))) ∧
    (∀ d a b, a.length ≤ 1000000 → (∀ x ∈ a, fineAnn d x.Ann) → 10 * d + 10 ≤ n + 7 → zbh n a b = (true, cmpL (trItems a) (trItems b))) ∧
    (∀ d x y, fineAnn d x.Ann → 10 * d + 10 ≤ n + 8 → zfe n x y = (true, cmpT (trItem x) (trItem y)))
  | 0 => by
    refine ⟨?_, ?_, ?_, ?_, ?_, ?_, ?_, ?_, ?_, ?_⟩
    · intro d a b h hd; have : d = 0 := by omega
      subst this; exact h.elim
    · intro d a b h hd; have : d = 0 := by omega
      subst this; exact h.elim
    all_goals (intros; omega)
  | n + 1 => by
    obtain ⟨h1, h2, h3, h4, h5, h6, h7, h8, h9, h10⟩ := cmp_all n
    refine ⟨?_, ?_, ?_, ?_, ?_, ?_, ?_, ?_, ?_, ?_⟩
    · intro d a b h hd
      rw [zbft]
      unfold zqo ztr
      rw [Wy.fin_bn, h2 d a b h (by omega)]; rfl
    · intro d a b h hd
      cases d with
      | zero => exact h.elim
      | succ d =>
        rw [zi6, zbsd, z85, z85]
        exact CF_tree trTerm _ a b h.1 fun x hx y hy => h3 d x y (h.2 x hx) (by omega)
    · intro d x y h hd
      rw [zbbd]
      unfold znf zqr
      rw [Wy.fin_bn, h4 d x y h (by omega)]
      simp only [cond_true, Wy.fin_bn, zv3]
      rw [zws _ (by simp)]
      obtain ⟨c, l⟩ := x; obtain ⟨c', l'⟩ := y
      simp only [cond_true, Wy.fin_k, firstNZ, trTerm, cmpT, cmpL]
      rfl
    · intro d x y h hd
      rw [z7s]
      unfold zls zoq
      rw [Wy.fin_bn, h5 d _ _ h (by omega)]; rfl
    · intro d l l' h hd
      rw [zj4, zbro, zwz, zwz]
      exact CF_tree zrf _ l l' h.1 fun x hx y hy => h6 d x y (h.2 x hx) (by omega)
    · intro d x y h hd
      rw [z5n]
      unfold zkn zna
      rw [Atom.eta, Atom.eta, Wy.fin_bn, h7 d _ _ h (by omega)]
      simp only [cond_true, Wy.fin_bn, zyz]
      rw [zws _ (by simp)]
      obtain ⟨c, l⟩ := x; obtain ⟨c', l'⟩ := y
      simp only [cond_true, Wy.fin_k, firstNZ, zrf, cmpT, cmpL]
      rfl
    · intro d x y h hd
      rw [z7q]
      unfold zlr zoj
      simp only [cond_true, Wy.fin_bn, zyz, zbdi, h8 d x.Args y.Args h.1.1 h.2.1 (by omega), h9 d x.Items y.Items h.1.2.1 (fun w hw => (h.2.2 w hw).2) (by omega)]
      rw [zws _ (by simp)]
      obtain ⟨k, r, a, f, i, o, v⟩ := x; obtain ⟨k', r', a', f', i', o', v'⟩ := y
      simp only [cond_true, Wy.fin_k, firstNZ, trAtom, cmpT, cmpL]
      rfl
    · intro d a b h0 h hd
      rw [zfh, CF_anns, z47, z47]
      exact CF_tree (fun x => TT.l (trAnn x)) _ a b h0 fun x hx y hy => by rw [h1 d x y (h x hx) (by omega)]; simp only [cmpT]
    · intro d a b h0 h hd
      rw [zgp, zbsr, zoa, zoa]
      exact CF_tree trItem _ a b h0 fun x hx y hy => h10 d x y (h x hx) (by omega)
    · intro d x y h hd
      rw [z78]
      unfold zlo zo7
      simp only [cond_true, Wy.fin_bn, zbdi, h1 d _ _ h (by omega)]
      rw [zws _ (by simp)]
      obtain ⟨c, l⟩ := x; obtain ⟨c', l'⟩ := y
      simp only [cond_true, Wy.fin_k, firstNZ, trItem, cmpT, cmpL]
      rfl

theorem zbh5 {d : Nat} {a : List Term} (h : fineAnn d a) (hd : d ≤ 100) (b : List Term) : zzg a b = (true, cmpL (trAnn a) (trAnn b)) := (cmp_all 1000).1 d a b h (by omega)
theorem zba5 {d : Nat} {x : Term} (h : zku (fineAnn d) x.Factors) (hd : d ≤ 99) (y : Term) : zce x y = (true, cmpL (zco x.Factors) (zco y.Factors)) := (cmp_all 1000).2.2.2.1 d x y h (by omega)
theorem zbat {d : Nat} {x : Atom} (h : zg9 (fineAnn d) x) (hd : d ≤ 99) (y : Atom) : zjw x y = (true, cmpT (trAtom x) (trAtom y)) := (cmp_all 1000).2.2.2.2.2.2.1 d x y h (by omega)
theorem zpr {d : Nat} {x : Weighted} (h : fineAnn d x.Ann) (hd : d ≤ 99) (y : Weighted) : zbf x y = (true, cmpT (trItem x) (trItem y)) := (cmp_all 1000).2.2.2.2.2.2.2.2.2 d x y h (by omega)
theorem zbk7 {d : Nat} {a : List Term} (h : fineAnn d a) (hd : d ≤ 100) (b : List Term) : zla a b = (true, decide (a = b)) := by
  unfold zla zyq
  rw [Wy.fin_bn, zbh5 h hd]
  simp only [cond_true, Wy.fin_k]
  congr 1
  by_cases e : a = b
  · subst e; rw [cmpL_self]; simp
  · have : cmpL (trAnn a) (trAnn b) ≠ 0 := fun h => e (z87 _ _ (cmpL_eq _ _ h))
    simp [e, this]

theorem zbna (s : ByteArray) : ∀ (n i : Nat) (r : List UInt8), s.size ≤ i + n → ByteArray.toList.loop s i r = r.reverse ++ s.data.toList.drop i
  | 0, i, r, h => by
    rw [ByteArray.toList.loop, if_neg (by omega), List.drop_eq_nil_of_le (by rw [← Lib.size_eq]; omega), List.append_nil]
  | n + 1, i, r, h => by
    rw [ByteArray.toList.loop]
    by_cases hi : i < s.size
    · have hi' : i < s.data.toList.length := by rw [← Lib.size_eq]; exact hi
      rw [if_pos hi, zbna s n (i + 1) _ (by omega), List.drop_eq_getElem_cons hi', List.reverse_cons, List.append_assoc]
      congr 1
      have : s.get! i = s.data.toList[i] := by
        have h' : i < s.data.size := hi
        show s.data[i]! = s.data.toList[i]
        rw [getElem!_pos s.data i h']; rfl
      rw [this]; rfl
    · rw [if_neg hi, List.drop_eq_nil_of_le (by rw [← Lib.size_eq]; omega), List.append_nil]
theorem zbfy (s : ByteArray) : s.toList = s.data.toList := by
  rw [ByteArray.toList, zbna s s.size 0 [] (by omega)]; rfl
theorem zblm {s t : ByteArray} (h : s.data.toList = t.data.toList) : s = t := by
  cases s; cases t
  congr 1
  exact Array.toList_inj.1 h
theorem zbrf (s t : ByteArray) : (s.toList == t.toList) = decide (s.data.toList = t.data.toList) := by
  rw [zbfy, zbfy]
  cases hb : (s.data.toList == t.data.toList) with
  | true => rw [decide_eq_true (beq_iff_eq.1 hb)]
  | false => rw [decide_eq_false (fun h => by rw [beq_iff_eq.2 h] at hb; cases hb)]
theorem zbmd (s t : ByteArray) : (s.toList == t.toList) = decide (s = t) := by
  rw [zbrf]
  by_cases h : s = t
  · rw [decide_eq_true h, decide_eq_true (by rw [h])]
  · rw [decide_eq_false h, decide_eq_false fun e => h (zblm e)]
theorem bne0 (z w : Int) : (z != w) = !decide (z = w) := by by_cases h : z = w <;> simp [h]
theorem zbkc : ∀ a b : List UInt8, Op.bytesLess a b = decide (Lib.compareBytes a b < 0)
  | [], [] => by simp [Op.bytesLess, Lib.compareBytes]
  | _ :: _, [] => by simp [Op.bytesLess, Lib.compareBytes]
  | [], _ :: _ => by simp [Op.bytesLess, Lib.compareBytes]
  | x :: a, y :: b => by
    simp only [Op.bytesLess, Lib.compareBytes]
    by_cases p : x < y
    · simp [p]
    · by_cases q : y < x
      · have hne : ¬ x = y := fun e => by subst e; exact p q
        simp [p, q, hne]
      · have he : x = y := UInt8.toNat_inj.1 (by rw [UInt8.lt_iff_toNat_lt] at p q; omega)
        subst he
        simp [p, zbkc a b]
theorem zbdm (a b : Value) : zpm a b = (true, cmpT (trV a) (trV b)) := by
  unfold zpm z5f zz6 zbdx
  rw [zbmd, zbfy, zbfy, zbkc, trB_cmp]
  simp only [trV, cmpT, cmpL, cmpI]
  simp only [Wy.fin_i, Wy.fin_bn, Wy.fin_k, cond_true, bne0]
  by_cases h1 : a.Kind = b.Kind
  · by_cases h2 : a.Int = b.Int
    · by_cases h3 : a.Text = b.Text
      · simp [h1, h2, h3, cmpT_self]
      · have h4 : cmpT (trB a.Text) (trB b.Text) ≠ 0 := fun e => by
          have := zbbm _ _ (TT.l.inj (cmpT_eq _ _ e))
          exact h3 (zblm this)
        have h5 := cmpT_rng (trB a.Text) (trB b.Text)
        simp only [trB, cmpT] at h4 h5
        simp only [trB, cmpT]
        rcases h5 with h5 | h5 | h5
        · simp [h1, h2, h3, h5]
        · exact absurd h5 h4
        · simp [h1, h2, h3, h5]
    · by_cases h3 : a.Int < b.Int
      · simp [h1, h2, h3]
      · simp [h1, h2, h3, show b.Int < a.Int by omega]
  · by_cases h3 : a.Kind < b.Kind
    · simp [h1, h3]
    · simp [h1, h3, show b.Kind < a.Kind by omega]
theorem zpf (x y : Int) : zcz x y = (true, cmpI x y) := by
  unfold zcz z8i cmpI
  by_cases h1 : x < y
  · simp [h1, Wy.fin_i, Wy.fin_k]
  · by_cases h2 : y < x <;> simp [h1, h2, Wy.fin_i, Wy.fin_k]
theorem zbst (a b : Int) : (cmpI a b = 0) ↔ a = b := ⟨cmpI_eq, fun h => h ▸ cmpI_self a⟩
theorem zblc (x y : RowID) : zry x y = (true, if cmpI x.Table y.Table = 0 then cmpI x.Seq y.Seq else cmpI x.Table y.Table) := by
  unfold zry zzl
  simp only [zpf, Wy.fin_i, Wy.fin_bn, Wy.fin_k, cond_true, bne0]
  by_cases h : cmpI x.Table y.Table = 0
  · simp [h]
  · simp [h]

section
variable {α : Type} [Inhabited α]
def RG_W2 (p q : α → α → Bool × Int) (a : List α) (b : List α) (i : Int) : Wy (List α × List α × Int × Unit) (Unit) (Int ⊕ (List α × List α)) := .i (decide (i < Int.ofNat a.length)) (.i (decide (i < Int.ofNat b.length)) (.i (decide ((0 : Int) ≤ i) && decide (i < Int.ofNat a.length)) (.i (decide ((0 : Int) ≤ i) && decide (i < Int.ofNat b.length)) (.bn (p (a.getD i.toNat default) (b.getD i.toNat default)) fun r1 => .i (r1 != (0 : Int)) (.k (.inl (r1))) (.i (decide ((0 : Int) ≤ i) && decide (i < Int.ofNat a.length)) (.i (decide ((0 : Int) ≤ i) && decide (i < Int.ofNat b.length)) (.bn (q (a.getD i.toNat default) (b.getD i.toNat default)) fun r0 => .i (r0 != (0 : Int)) (.k (.inl (r0))) (.h (a, b, (IntKind.i64.wrap (i + (1 : Int))), ()) ())) .d) .d)) .d) .d) (.k (.inr (a, b)))) (.k (.inr (a, b)))
def RG_w2 (p q : α → α → Bool × Int) (x : List α × List α × Int × Unit) (y : Unit) : Wy (List α × List α × Int × Unit) (Unit) (Int ⊕ (List α × List α)) := RG_W2 p q x.1 x.2.1 x.2.2.1
def RG_L2 (p q : α → α → Bool × Int) (n : Nat) (a : List α) (b : List α) (i : Int) : Bool × (Int ⊕ (List α × List α)) := iterW (RG_w2 p q) (.inl default) n (a, b, i, ()) ()
def RG (p q : α → α → Bool × Int) (a b : List α) : Bool × Int := (.bn (RG_L2 p q (a.length + b.length + Int.toNat (0 : Int) + (1 : Nat)) a b (0 : Int)) fun r5 => .i (isL r5) (.k (getL r5)) (.bn (zcz (Int.ofNat (getR r5).fst.length) (Int.ofNat (getR r5).snd.length)) fun r4 => .k r4) : Wy0 Int).fin default
theorem RG_loop (p q : α → α → Bool × Int) (c1 c2 : α → α → Int) (a b : List α) (ha : a.length ≤ 1000000) (hp : ∀ x ∈ a, ∀ y ∈ b, p x y = (true, c1 x y)) (hq : ∀ x ∈ a, ∀ y ∈ b, q x y = (true, c2 x y)) : ∀ (n i : Nat), a.length < i + n → i ≤ a.length → i ≤ b.length →
    ∃ r, RG_L2 p q n a b i = (true, r) ∧ ((r = .inl (lexG (fun x y => if c1 x y = 0 then c2 x y else c1 x y) (a.drop i) (b.drop i))) ∨ (r = .inr (a, b) ∧ lexG (fun x y => if c1 x y = 0 then c2 x y else c1 x y) (a.drop i) (b.drop i) = cmpI a.length b.length))
  | 0, i, h, h2, h3 => by omega
  | n + 1, i, h, h2, h3 => by
    show ∃ r, (RG_W2 p q a b i).ev (fun x y => RG_L2 p q n x.1 x.2.1 x.2.2.1) (fun r => (true, r)) (false, .inl default) = (true, r) ∧ _
    unfold RG_W2
    by_cases hi : i < a.length
    · by_cases hi' : i < b.length
      · simp only [Wy.ev_i, Wy.ev_k, Wy.ev_h, Wy.ev_bn, Wy.ev_d, Int.ofNat_eq_natCast, lt_nat, le0_nat, decide_true, decide_false, Bool.and_self, Bool.true_and, Bool.and_true, Bool.and_false, Bool.false_and, cond_true, cond_false, Int.toNat_natCast, Bool.not_true, Bool.not_false, hi, hi', hp _ (getD_mem hi) _ (getD_mem hi'), hq _ (getD_mem hi) _ (getD_mem hi')]
        rw [drop_lt hi, drop_lt hi', wrap_succ (by omega)]
        simp only [lexG]
        generalize c1 (a.getD i default) (b.getD i default) = z1
        generalize c2 (a.getD i default) (b.getD i default) = z2
        by_cases hx : z1 = 0
        · have e : (z1 != 0) = false := by simp [hx]
          by_cases hx2 : z2 = 0
          · have e2 : (z2 != 0) = false := by simp [hx2]
            simp only [e, e2, cond_false, hx, hx2, if_true]
            exact RG_loop p q c1 c2 a b ha hp hq n (i + 1) (by omega) (by omega) (by omega)
          · have e2 : (z2 != 0) = true := by simp [hx2]
            simp only [e, e2, cond_false, cond_true, hx, hx2, if_true, if_false]
            exact ⟨_, rfl, .inl rfl⟩
        · have e : (z1 != 0) = true := by simp [hx]
          simp only [e, cond_true, hx, if_false]
          exact ⟨_, rfl, .inl rfl⟩
      · simp only [Wy.ev_i, Wy.ev_k, Wy.ev_h, Wy.ev_bn, Wy.ev_d, Int.ofNat_eq_natCast, lt_nat, le0_nat, decide_true, decide_false, Bool.and_self, Bool.true_and, Bool.and_true, Bool.and_false, Bool.false_and, cond_true, cond_false, Int.toNat_natCast, Bool.not_true, Bool.not_false, hi, hi']
        refine ⟨_, rfl, .inr ⟨rfl, ?_⟩⟩
        rw [drop_lt hi, drop_ge hi']
        unfold cmpI; rw [if_neg (by omega), if_pos (by omega)]; rfl
    · simp only [Wy.ev_i, Wy.ev_k, Wy.ev_h, Wy.ev_bn, Wy.ev_d, Int.ofNat_eq_natCast, lt_nat, le0_nat, decide_true, decide_false, Bool.and_self, Bool.true_and, Bool.and_true, Bool.and_false, Bool.false_and, cond_true, cond_false, Int.toNat_natCast, Bool.not_true, Bool.not_false, hi]
      refine ⟨_, rfl, .inr ⟨rfl, ?_⟩⟩
      rw [drop_ge hi]
      by_cases hi' : i < b.length
      · rw [drop_lt hi']; unfold cmpI; rw [if_pos (by omega)]; rfl
      · rw [drop_ge hi']; unfold cmpI; rw [if_neg (by omega), if_neg (by omega)]; rfl
theorem RG_eq (p q : α → α → Bool × Int) (c1 c2 : α → α → Int) (a b : List α) (ha : a.length ≤ 1000000) (hp : ∀ x ∈ a, ∀ y ∈ b, p x y = (true, c1 x y)) (hq : ∀ x ∈ a, ∀ y ∈ b, q x y = (true, c2 x y)) : RG p q a b = (true, lexG (fun x y => if c1 x y = 0 then c2 x y else c1 x y) a b) := by
  unfold RG
  obtain ⟨r, h1, h2⟩ := RG_loop p q c1 c2 a b ha hp hq (a.length + b.length + Int.toNat 0 + 1) 0 (by simp; omega) (by omega) (by omega)
  rw [show ((0 : Nat) : Int) = (0 : Int) from rfl] at h1
  rw [Wy.fin_bn, h1]
  simp only [List.drop_zero] at h2
  rcases h2 with rfl | ⟨rfl, h2⟩
  · rfl
  · rw [h2]
    simp only [Wy.fin_i, Wy.fin_k, Wy.fin_bn, zpf, Int.ofNat_eq_natCast, lt_nat, le0_nat, decide_true, decide_false, Bool.and_self, Bool.true_and, Bool.and_true, Bool.and_false, Bool.false_and, cond_true, cond_false, Int.toNat_natCast, Bool.not_true, Bool.not_false, isL, getR]
end
theorem RG_tree {α : Type} [Inhabited α] (e : α → TT) (p q : α → α → Bool × Int) (c1 c2 : α → α → Int) (a b : List α) (ha : a.length ≤ 1000000) (hp : ∀ x ∈ a, ∀ y ∈ b, p x y = (true, c1 x y)) (hq : ∀ x ∈ a, ∀ y ∈ b, q x y = (true, c2 x y))
    (hc : ∀ x y, (if c1 x y = 0 then c2 x y else c1 x y) = cmpT (e x) (e y)) : RG p q a b = (true, cmpL (a.map e) (b.map e)) := by
  rw [RG_eq p q c1 c2 a b ha hp hq, zbf0 e a b fun x _ y _ => hc x y]

theorem zbsc (g) : zya g = RG (fun x y => g x.Factors y.Factors) (fun x y => zcz x.Coeff y.Coeff) := rfl
theorem zbrs (g) : zk0 g = RG (fun x y => g x.Atom y.Atom) (fun x y => zcz x.Exp y.Exp) := by
  have h : zhm g = RG_w2 (fun x y => g x.Atom y.Atom) (fun x y => zcz x.Exp y.Exp) := by
    funext x y
    unfold zhm zx2 RG_w2 RG_W2
    rw [Atom.eta, Atom.eta]
  funext a b
  unfold zk0 zrm zyi
  rw [h]; rfl
theorem zbsb (g) : zqg g = RG (fun x y => zpm x.Value y.Value) (fun x y => g x.Ann y.Ann) := rfl

theorem zbpv (gI) (g : List Term → List Term → Bool × Int) (a b : Atom) (ha : a.Args.length ≤ 1000000) (hg : ∀ x ∈ a.Args, ∀ y ∈ b.Args, g x y = (true, cmpL (trAnn x) (trAnn y))) : ∀ (n i : Nat), a.Args.length < i + n → i ≤ a.Args.length → i ≤ b.Args.length →
    ∃ r, ztb gI g n i a b = (true, r) ∧ ((r = .inl (lexG (fun x y => cmpL (trAnn x) (trAnn y)) (a.Args.drop i) (b.Args.drop i)) ∧ lexG (fun x y => cmpL (trAnn x) (trAnn y)) (a.Args.drop i) (b.Args.drop i) ≠ 0) ∨ (r = .inr (a, b) ∧ lexG (fun x y => cmpL (trAnn x) (trAnn y)) (a.Args.drop i) (b.Args.drop i) = cmpI a.Args.length b.Args.length))
  | 0, i, h, h2, h3 => by omega
  | n + 1, i, h, h2, h3 => by
    show ∃ r, (zti gI g i a b).ev (fun x y => ztb gI g n x.2.2.1 y.1 y.2.1) (fun r => (true, r)) (false, .inl default) = (true, r) ∧ _
    unfold zti
    by_cases hi : i < a.Args.length
    · by_cases hi' : i < b.Args.length
      · simp only [Wy.ev_i, Wy.ev_k, Wy.ev_h, Wy.ev_bn, Wy.ev_d, Int.ofNat_eq_natCast, lt_nat, le0_nat, decide_true, decide_false, Bool.and_self, Bool.true_and, Bool.and_true, Bool.and_false, Bool.false_and, cond_true, cond_false, Int.toNat_natCast, Bool.not_true, Bool.not_false, hi, hi', hg _ (getD_mem hi) _ (getD_mem hi')]
        rw [drop_lt hi, drop_lt hi', wrap_succ (by omega)]
        simp only [lexG]
        generalize cmpL (trAnn (a.Args.getD i default)) (trAnn (b.Args.getD i default)) = z1
        by_cases hx : z1 = 0
        · have e : (z1 != 0) = false := by simp [hx]
          simp only [e, cond_false, hx, if_true]
          exact zbpv gI g a b ha hg n (i + 1) (by omega) (by omega) (by omega)
        · have e : (z1 != 0) = true := by simp [hx]
          simp only [e, cond_true, hx, if_false]
          exact ⟨_, rfl, .inl ⟨rfl, hx⟩⟩
      · simp only [Wy.ev_i, Wy.ev_k, Wy.ev_h, Wy.ev_bn, Wy.ev_d, Int.ofNat_eq_natCast, lt_nat, le0_nat, decide_true, decide_false, Bool.and_self, Bool.true_and, Bool.and_true, Bool.and_false, Bool.false_and, cond_true, cond_false, Int.toNat_natCast, Bool.not_true, Bool.not_false, hi, hi']
        refine ⟨_, rfl, .inr ⟨rfl, ?_⟩⟩
        rw [drop_lt hi, drop_ge hi']
        unfold cmpI; rw [if_neg (by omega), if_pos (by omega)]; rfl
    · simp only [Wy.ev_i, Wy.ev_k, Wy.ev_h, Wy.ev_bn, Wy.ev_d, Int.ofNat_eq_natCast, lt_nat, le0_nat, decide_true, decide_false, Bool.and_self, Bool.true_and, Bool.and_true, Bool.and_false, Bool.false_and, cond_true, cond_false, Int.toNat_natCast, Bool.not_true, Bool.not_false, hi]
      refine ⟨_, rfl, .inr ⟨rfl, ?_⟩⟩
      rw [drop_ge hi]
      by_cases hi' : i < b.Args.length
      · rw [drop_lt hi']; unfold cmpI; rw [if_pos (by omega)]; rfl
      · rw [drop_ge hi']; unfold cmpI; rw [if_neg (by omega), if_neg (by omega)]; rfl
theorem atom_eq (gI) (g : List Term → List Term → Bool × Int) (x y : Atom) (ha : x.Args.length ≤ 1000000) (hg : ∀ a ∈ x.Args, ∀ b ∈ y.Args, g a b = (true, cmpL (trAnn a) (trAnn b)))
    (hI : gI x.Items y.Items = (true, cmpL (trItems x.Items) (trItems y.Items))) : znq gI g x y = (true, cmpT (trAtom x) (trAtom y)) := by
  unfold znq zud
  rw [Atom.eta, Atom.eta]
  obtain ⟨r, h1, h2⟩ := zbpv gI g x y ha hg (Int.toNat 0 + 1 + x.Args.length + x.Items.length + y.Args.length + y.Items.length) 0 (by omega) (by omega) (by omega)
  rw [show ((0 : Nat) : Int) = (0 : Int) from rfl] at h1
  simp only [List.drop_zero] at h2
  rw [zbf0 (fun a => TT.l (trAnn a)) x.Args y.Args (fun a _ b _ => by simp only [cmpT]), ← z47, ← z47] at h2
  simp only [zpf, zblc, Wy.fin_bn, Wy.fin_i, Wy.fin_k, cond_true, h1]
  obtain ⟨k, r0, a, f, i, o, v⟩ := x; obtain ⟨k', r', a', f', i', o', v'⟩ := y
  simp only [trAtom, cmpT, cmpL, bne0] at *
  by_cases e1 : cmpI k k' = 0
  rotate_left
  · simp [e1]
  by_cases e2 : cmpI r0.Table r'.Table = 0
  rotate_left
  · simp [e1, e2]
  by_cases e3 : cmpI r0.Seq r'.Seq = 0
  rotate_left
  · simp [e1, e2, e3]
  rcases h2 with ⟨rfl, h2⟩ | ⟨rfl, h2⟩
  · simp [e1, e2, e3, h2, isL, getL]
  simp only [e1, e2, e3, h2, isL, getR, Int.ofNat_eq_natCast, lt_nat, le0_nat, decide_true, decide_false, Bool.and_self, Bool.true_and, Bool.and_true, Bool.and_false, Bool.false_and, cond_true, cond_false, Int.toNat_natCast, Bool.not_true, Bool.not_false, hI, if_true]
  by_cases e4 : cmpI (a.length : Int) (a'.length : Int) = 0
  rotate_left
  · simp [e4]
  by_cases e5 : cmpI f f' = 0
  rotate_left
  · simp [e4, e5]
  by_cases e6 : cmpL (trItems i) (trItems i') = 0
  rotate_left
  · simp [e4, e5, e6]
  by_cases e7 : cmpI o o' = 0
  rotate_left
  · simp [e4, e5, e6, e7]
  simp [e4, e5, e6, e7, zbdm]

theorem zbek : ∀ n,
    (∀ d a b, fineAnn d a → 10 * d ≤ n → zpc n a b = (true, cmpL (trAnn a) (trAnn b))) ∧
    (∀ d l l', zku (fineAnn d) l → 10 * d + 10 ≤ n + 1 → zk3 n l l' = (true, cmpL (zco l) (zco l'))) ∧
    (∀ d x y, zg9 (fineAnn d) x → 10 * d + 10 ≤ n + 2 → znx n x y = (true, cmpT (trAtom x) (trAtom y))) ∧
    (∀ d a b, a.length ≤ 1000000 → (∀ x ∈ a, fineAnn d x.Ann) → 10 * d + 10 ≤ n + 3 → zms n a b = (true, cmpL (trItems a) (trItems b)))
  | 0 => by
    refine ⟨?_, ?_, ?_, ?_⟩
    · intro d a b h hd; have : d = 0 := by omega
      subst this; exact h.elim
    all_goals (intros; omega)
  | n + 1 => by
    obtain ⟨h1, h2, h3, h4⟩ := zbek n
    refine ⟨?_, ?_, ?_, ?_⟩
    · intro d a b h hd
      cases d with
      | zero => exact h.elim
      | succ d =>
        rw [zbl0, zbsc, z85, z85]
        exact RG_tree trTerm _ _ (fun x y => cmpL (zco x.Factors) (zco y.Factors)) (fun x y => cmpI x.Coeff y.Coeff) a b h.1 (fun x hx y hy => h2 d _ _ (h.2 x hx) (by omega)) (fun x _ y _ => zpf _ _) fun x y => by
          obtain ⟨c, l⟩ := x; obtain ⟨c', l'⟩ := y
          simp only [trTerm, cmpT, cmpL]
          by_cases e : cmpI c c' = 0 <;> simp [e]
    · intro d l l' h hd
      rw [zbc7, zbrs, zwz, zwz]
      exact RG_tree zrf _ _ (fun x y => cmpT (trAtom x.Atom) (trAtom y.Atom)) (fun x y => cmpI x.Exp y.Exp) l l' h.1 (fun x hx y hy => h3 d _ _ (h.2 x hx) (by omega)) (fun x _ y _ => zpf _ _) fun x y => by
        obtain ⟨c, l⟩ := x; obtain ⟨c', l'⟩ := y
        simp only [zrf, cmpT, cmpL]
        by_cases e : cmpI l l' = 0 <;> simp [e]
    · intro d x y h hd
      rw [zbgw]
      exact atom_eq _ _ x y h.1.1 (fun a ha b _ => h1 d a b (h.2.1 a ha) (by omega)) (h4 d _ _ h.1.2.1 (fun w hw => (h.2.2 w hw).2) (by omega))
    · intro d a b h0 h hd
      rw [zbfk, zbsb, zoa, zoa]
      exact RG_tree trItem _ _ (fun x y => cmpT (trV x.Value) (trV y.Value)) (fun x y => cmpL (trAnn x.Ann) (trAnn y.Ann)) a b h0 (fun x _ y _ => zbdm _ _) (fun x hx y _ => h1 d _ _ (h x hx) (by omega)) fun x y => by
        obtain ⟨c, l⟩ := x; obtain ⟨c', l'⟩ := y
        simp only [trItem, cmpT, cmpL]
        by_cases e : cmpL (trAnn l) (trAnn l') = 0 <;> simp [e]
theorem zbnu {d : Nat} {a : List Term} (h : fineAnn d a) (hd : d ≤ 100) (b : List Term) : zbav a b = (true, cmpL (trAnn a) (trAnn b)) := (zbek 1000).1 d a b h (by omega)
theorem zbfn {d : Nat} {l : List Factor} (h : zku (fineAnn d) l) (hd : d ≤ 99) (l' : List Factor) : zv4 l l' = (true, cmpL (zco l) (zco l')) := (zbek 1000).2.1 d l l' h (by omega)
theorem zbjr {d : Nat} {x : Atom} (h : zg9 (fineAnn d) x) (hd : d ≤ 99) (y : Atom) : zt6 x y = (true, cmpT (trAtom x) (trAtom y)) := (zbek 1000).2.2.1 d x y h (by omega)
theorem zug {d : Nat} {a : List Weighted} (h0 : a.length ≤ 1000000) (h : ∀ x ∈ a, fineAnn d x.Ann) (hd : d ≤ 99) (b : List Weighted) : zot a b = (true, cmpL (trItems a) (trItems b)) := (zbek 1000).2.2.2 d a b h0 h (by omega)
theorem zbj8 {d : Nat} {a : List Term} (h : fineAnn d a) (hd : d ≤ 100) (b : List Term) : zv8 a b = (true, decide (a = b)) := by
  unfold zv8 zbdl
  rw [Wy.fin_bn, zbnu h hd]
  simp only [cond_true, Wy.fin_k]
  congr 1
  by_cases e : a = b
  · subst e; rw [cmpL_self]; simp
  · have : cmpL (trAnn a) (trAnn b) ≠ 0 := fun h => e (z87 _ _ (cmpL_eq _ _ h))
    simp [e, this]
end Go.Proofs.YtnolcogncjijpaaGreatDoor
end
