/- Texts of this claim, joined (the program, its functions in plain words, and what they compute). -/
import Derived.Test.YtnolcogncjijpaaGreatDoorGC1
import Derived.Test.YtnolcogncjijpaaGreatDoorGA2
import Derived.Test.YtnolcogncjijpaaGreatDoorGC2
import Derived.Test.YtnolcogncjijpaaGreatDoorGB1
set_option autoImplicit false
set_option linter.unusedVariables false
set_option linter.unusedSectionVars false
set_option linter.unusedSimpArgs false
set_option maxRecDepth 1000000
set_option maxHeartbeats 0
noncomputable section
namespace Go.Proofs.YtnolcogncjijpaaGreatDoor
open Go Go.Ab
def z9j : Cx ty := mkCx base 7 [(31, zc9)] [] [] [] [] []
def zw5 (b : Binding) : Wy0 (Bool) := .bn (zc6 b.To) fun r0 => .k (!r0)
def zrv (b : Binding) : Bool × Bool := (zw5 b).fin default
def zu5 (r : Bool) : ARes ty := ⟨[.pure (.lit (.bool r))], []⟩
def zwp : AL base (Binding × Unit) := aCons (aPure (vAgg 69)) aNil
def zie : Ab.Spec ty := mkSpec zwp fun x => ((zrv x.1).1, zu5 (zrv x.1).2)
theorem zmk : Sound Tryz.prog base 91 zie :=
  sound_W (cx' := z9j) draws base_ok mkSame (mkSpecs ⟨(zdk), trivial⟩) Tryz.call91 Tryz.func91 (c := body Tryz.f91) (by kernel_rfl) (loopsOK_of (l := []) (by kernel_rfl) trivial) (sg := ⟨[.pure], []⟩) (A := zwp) (res := zu5) (W := fun x => zw5 x.1) (z := default) (fun x => by kernel_rfl) (fun _ => by kernel_rfl)
def zr7 (s : List Binding) (t7 : Int) (t8 : Int) : Wy (List Binding × Unit × Int × Int × Unit) (Unit) (Int ⊕ Unit) := .i (decide (t8 < t7)) (.i (decide ((0 : Int) ≤ t8) && decide (t8 < Int.ofNat s.length)) (.bn (zrv (s.getD t8.toNat default)) fun r0 => .i (r0) (.k (.inl t8)) (.h (s, (), t7, (IntKind.i64.wrap (t8 + (1 : Int))), ()) ())) .d) (.k (.inr ()))
def zew (x : List Binding × Unit × Int × Int × Unit) (y : Unit) : Wy (List Binding × Unit × Int × Int × Unit) (Unit) (Int ⊕ Unit) := zr7 x.1 x.2.2.1 x.2.2.2.1
def zsa (n : Nat) (s : List Binding) (t7 : Int) (t8 : Int) : Bool × (Int ⊕ Unit) := iterW (zew) (.inl default) n (s, (), t7, t8, ()) ()
def zin (r : Int ⊕ Unit) : LTree ty := .ite (isL r) (.done .ret [.lit (.int .i64 (getL r))] []) (.done (.exit 0) [] [])
def zjc : LL ty (List Binding × Unit × Int × Int × Unit) := llCons (lSl 69) (llCons (lFn 91 (llNil)) (llCons (lInt .i64) (llCons (lInt .i64) llNil)))
def zi8 : BL ty (Unit) := bNil
def zjg : Cx ty := mkCx base 19 [(91, zie)] [] [(2, [(0, .keep), (1, .keep), (7, .keep), (8, .keep)])] [(2, 1, []), (2, 0, [(4, .keep)])] [(2, spW zjc zi8 (zew) (.inl default) zin fun x y => (x.1.length + Int.toNat x.2.2.1 + Int.toNat x.2.2.2.1 + 1))] []
theorem zrm : LoopOK zjg (lp (body Tryz.f94) 0) := loopOK_W (id := 2) (V := zjc) (B := zi8) (W := zew) (z := .inl default) (tr := zin) (m := fun x y => (x.1.length + Int.toNat x.2.2.1 + Int.toNat x.2.2.2.1 + 1)) (by kernel_rfl) (by kernel_rfl) fun R H K x y => by kernel_rfl
def zj4 (s : List Binding) : Wy0 (Int) := .bn (zsa (s.length + (Int.ofNat s.length).toNat + Int.toNat (0 : Int) + (1 : Nat)) s (Int.ofNat s.length) (0 : Int)) fun r2 => .i (isL r2) (.k (getL r2)) (.k (-1 : Int))
def ze9 (s : List Binding) : Bool × Int := (zj4 s).fin default
def zi0 (r : Int) : ARes ty := ⟨[.pure (.lit (.int .i64 r))], []⟩
def zj1 : AL base (List Binding × Unit × Unit) := aCons (aPure (vSl 69)) (aCons (aPure (vFn 91 vNil)) aNil)
def zh3 : Ab.Spec ty := mkSpec zj1 fun x => ((ze9 x.1).1, zi0 (ze9 x.1).2)
theorem zqy : Sound Tryz.prog base 94 zh3 :=
  sound_W (cx' := zjg) draws base_ok mkSame (mkSpecs ⟨(zmk), trivial⟩) Tryz.call94 Tryz.func94 (c := body Tryz.f94) (by kernel_rfl) (loopsOK_of (l := [lp (body Tryz.f94) 0]) (by kernel_rfl) ⟨zrm, trivial⟩) (sg := ⟨[.pure], []⟩) (A := zj1) (res := zi0) (W := fun x => zj4 x.1) (z := default) (fun x => by kernel_rfl) (fun _ => by kernel_rfl)
def zqw : Cx ty := mkCx base 9 [(91, zie), (94, zh3)] [] [] [] [] []
def zh9 (s : List Binding) : Wy0 (Bool) := .bn (ze9 s) fun r0 => .k (decide (r0 ≥ (0 : Int)))
def zex (s : List Binding) : Bool × Bool := (zh9 s).fin default
def zgy (r : Bool) : ARes ty := ⟨[.pure (.lit (.bool r))], []⟩
def zh2 : AL base (List Binding × Unit × Unit) := aCons (aPure (vSl 69)) (aCons (aPure (vFn 91 vNil)) aNil)
def zgh : Ab.Spec ty := mkSpec zh2 fun x => ((zex x.1).1, zgy (zex x.1).2)
theorem zpb : Sound Tryz.prog base 90 zgh :=
  sound_W (cx' := zqw) draws base_ok mkSame (mkSpecs ⟨(zmk), (zqy), trivial⟩) Tryz.call90 Tryz.func90 (c := body Tryz.f90) (by kernel_rfl) (loopsOK_of (l := []) (by kernel_rfl) trivial) (sg := ⟨[.pure], []⟩) (A := zh2) (res := zgy) (W := fun x => zh9 x.1) (z := default) (fun x => by kernel_rfl) (fun _ => by kernel_rfl)
def zbeu : Cx ty := mkCx base0 18 [(31, zc9), (90, zgh), (91, zie), (92, z0q), (93, zig)] [] [] [] [] []
def z01 (a : List Term) (l : List Binding) : Wy0 (List Term × Int) := .bn (zc6 a) fun r2 => .i (!r2) (.k ([], (1 : Int))) (.bn (zex l) fun r1 => .i (r1) (.k ([], (1 : Int))) (.bn (z99 a l) fun r0 => .k (r0.fst, r0.snd)))
def z3y (a : List Term) (l : List Binding) : Bool × (List Term × Int) := (z01 a l).fin default
def zx4 (r : List Term × Int) : ARes ty := ⟨[.own 42 r.1, .pure (.lit (.int .i64 r.2))], []⟩
def z0w : AL base0 (List Term × List Binding × Unit) := aCons (aPure (vSl 42)) (aCons (aPure (vSl 69)) aNil)
def zw2 : Ab.Spec ty := mkSpec z0w fun x => ((z3y x.1 x.2.1).1, zx4 (z3y x.1 x.2.1).2)
theorem z9n : Sound Tryz.prog base0 41 zw2 :=
  sound_W (cx' := zbeu) draws zlc mkSame (mkSpecs ⟨(zdk.nodr), (zpb.nodr), (zmk.nodr), (zbdz), (zma.nodr), trivial⟩) Tryz.call41 Tryz.func41 (c := body Tryz.f41) (by kernel_rfl) (loopsOK_of (l := []) (by kernel_rfl) trivial) (sg := ⟨[.own 42, .pure], []⟩) (A := z0w) (res := zx4) (W := fun x => z01 x.1 x.2.1) (z := default) (fun x => by kernel_rfl) (fun _ => by kernel_rfl)
def zbo9 : Cx ty := mkCx base0 84 [(13, zxp), (16, zxl), (18, zum), (20, zuz), (25, zuy), (27, zxj), (41, zw2), (51, z1v)] [] [] [] [] []
def zbjy : Wy0 (Bool) := .k true
def zbnf : Bool × Bool := (zbjy).fin default
def zbgs (r : Bool) : ARes ty := ⟨[.pure (.lit (.bool r))], []⟩
def zbkp : AL base0 (Unit) := aNil
def zbep : Ab.Spec ty := mkSpec zbkp fun x => ((zbnf ).1, zbgs (zbnf ).2)
theorem zbmz : Sound Tryz.prog base0 11 zbep :=
  sound_W (cx' := zbo9) draws zlc mkSame (mkSpecs ⟨(z4v), (z5w), (z10.nodr), (z2o.nodr), (z1u.nodr), (z4l.nodr), (z9n), (zbfr), trivial⟩) Tryz.call11 Tryz.func11 (c := body Tryz.f11) (by kernel_rfl) (loopsOK_of (l := []) (by kernel_rfl) trivial) (sg := ⟨[.pure], []⟩) (A := zbkp) (res := zbgs) (W := fun x => zbjy ) (z := default) (fun x => by kernel_rfl) (fun _ => by kernel_rfl)
def zbp9 : Cx ty := mkCx base 9 [(39, z9l)] [] [] [] [] []
def zbd8 (a : List Term) (b : List Term) : Wy0 (Bool) := .bn (zbau a b) fun r0 => .k (r0 == (0 : Int))
def zvu (a : List Term) (b : List Term) : Bool × Bool := (zbd8 a b).fin default
def zbhq (r : Bool) : ARes ty := ⟨[.pure (.lit (.bool r))], []⟩
def zbmf : AL base (List Term × List Term × Unit) := aCons (aPure (vSl 42)) (aCons (aPure (vSl 42)) aNil)
def z4r : Ab.Spec ty := mkSpec zbmf fun x => ((zvu x.1 x.2.1).1, zbhq (zvu x.1 x.2.1).2)
theorem zbdo : Sound Tryz.prog base 24 z4r :=
  sound_W (cx' := zbp9) draws base_ok mkSame (mkSpecs ⟨(zbkq), trivial⟩) Tryz.call24 Tryz.func24 (c := body Tryz.f24) (by kernel_rfl) (loopsOK_of (l := []) (by kernel_rfl) trivial) (sg := ⟨[.pure], []⟩) (A := zbmf) (res := zbhq) (W := fun x => zbd8 x.1 x.2.1) (z := default) (fun x => by kernel_rfl) (fun _ => by kernel_rfl)
def zbp7 : Cx ty := mkCx base 26 [(24, z4r)] [] [] [] [] []
def zbeg (a : List Term) (e : Int) (b : List Term) (f : Int) : Wy0 (Bool) := .i (e == f) (.bn (zvu a b) fun r0 => .i (r0) (.i (e == (0 : Int)) (.k true) (.k (Int.ofNat a.length == (0 : Int)))) (.k false)) (.k false)
def z5n (a : List Term) (e : Int) (b : List Term) (f : Int) : Bool × Bool := (zbeg a e b f).fin default
def zbim (r : Bool) : ARes ty := ⟨[.pure (.lit (.bool r))], []⟩
def zbmi : AL base (List Term × Int × List Term × Int × Unit) := aCons (aPure (vSl 42)) (aCons (aPure (vInt .i64)) (aCons (aPure (vSl 42)) (aCons (aPure (vInt .i64)) aNil)))
def zbgm : Ab.Spec ty := mkSpec zbmi fun x => ((z5n x.1 x.2.1 x.2.2.1 x.2.2.2.1).1, zbim (z5n x.1 x.2.1 x.2.2.1 x.2.2.2.1).2)
theorem zbnr : Sound Tryz.prog base 15 zbgm :=
  sound_W (cx' := zbp7) draws base_ok mkSame (mkSpecs ⟨(zbdo), trivial⟩) Tryz.call15 Tryz.func15 (c := body Tryz.f15) (by kernel_rfl) (loopsOK_of (l := []) (by kernel_rfl) trivial) (sg := ⟨[.pure], []⟩) (A := zbmi) (res := zbim) (W := fun x => zbeg x.1 x.2.1 x.2.2.1 x.2.2.2.1) (z := default) (fun x => by kernel_rfl) (fun _ => by kernel_rfl)
def zbeq (r : Int) : ARes ty := ⟨[.pure (.lit (.int .i64 r))], []⟩
def zbhp : AL base (List Term × Int × Int × Unit) := aCons (aPure (vSl 42)) (aCons (aPure (vInt .i64)) (aCons (aPure (vInt .i64)) aNil))
def zuw (F : List Term → Int → Int → Bool × Int) : Ab.Spec ty := mkSpec zbhp fun x => ((F x.1 x.2.1 x.2.2.1).1, zbeq (F x.1 x.2.1 x.2.2.1).2)
def zy7 (zo : List Term → Int → Int → Bool × Int) (a : List Term) (limit : Int) (deep : Int) (n_ : Int) (i : Int) (k : Int) (j : Int) (x_ : Atom) : Wy (List Term × Int × Int × Int × Int × Int × Unit × Int × Unit) (Atom × Unit) (List Term × Int × Int × Int × Int × Int × Atom) := .i (decide (j < Int.ofNat x_.Args.length)) (.i (decide (n_ ≤ limit)) (.i (decide ((0 : Int) ≤ j) && decide (j < Int.ofNat x_.Args.length)) (.bn (zo (x_.Args.getD j.toNat default) (IntKind.i64.wrap (limit - n_)) (IntKind.i64.wrap (deep - (1 : Int)))) fun r0 => .h (a, limit, deep, (IntKind.i64.wrap (n_ + r0)), i, k, (), (IntKind.i64.wrap (j + (1 : Int))), ()) (x_, ())) .d) (.k (a, limit, deep, n_, i, k, x_))) (.k (a, limit, deep, n_, i, k, x_))
def zzj (zo : List Term → Int → Int → Bool × Int) (x : List Term × Int × Int × Int × Int × Int × Unit × Int × Unit) (y : Atom × Unit) : Wy (List Term × Int × Int × Int × Int × Int × Unit × Int × Unit) (Atom × Unit) (List Term × Int × Int × Int × Int × Int × Atom) := zy7 zo x.1 x.2.1 x.2.2.1 x.2.2.2.1 x.2.2.2.2.1 x.2.2.2.2.2.1 x.2.2.2.2.2.2.2.1 y.1
def zza (zo : List Term → Int → Int → Bool × Int) (n : Nat) (a : List Term) (limit : Int) (deep : Int) (n_ : Int) (i : Int) (k : Int) (j : Int) (x_ : Atom) : Bool × (List Term × Int × Int × Int × Int × Int × Atom) := iterW (zzj zo) default n (a, limit, deep, n_, i, k, (), j, ()) (x_, ())
def z7k (r : List Term × Int × Int × Int × Int × Int × Atom) : LTree ty := .done (.exit 4) [.sl 42 r.1, .lit (.int .i64 r.2.1), .lit (.int .i64 r.2.2.1), .lit (.int .i64 r.2.2.2.1), .lit (.int .i64 r.2.2.2.2.1), .lit (.int .i64 r.2.2.2.2.2.1), .ptr 544 0] [.box (base.enc 48 r.2.2.2.2.2.2) false]
def z89 : LL ty (List Term × Int × Int × Int × Int × Int × Unit × Int × Unit) := llCons (lSl 42) (llCons (lInt .i64) (llCons (lInt .i64) (llCons (lInt .i64) (llCons (lInt .i64) (llCons (lInt .i64) (llCons (lPtrC 544 0) (llCons (lInt .i64) llNil)))))))
def z8v : BL ty (Atom × Unit) := bBox (llMap (fun x => (⟨x.1, ⟨x.2.1, x.2.2.1⟩, x.2.2.2.1, x.2.2.2.2.1, x.2.2.2.2.2.1, x.2.2.2.2.2.2.1, ⟨x.2.2.2.2.2.2.2.1, x.2.2.2.2.2.2.2.2.1, x.2.2.2.2.2.2.2.2.2.1⟩⟩ : Atom)) (fun x => (x.Kind, x.Row.Table, x.Row.Seq, x.Args, x.Func, x.Items, x.Op, x.Bound.Kind, x.Bound.Int, x.Bound.Text, ())) (fun _ => rfl) (llCons (lInt .i64) (llCons (lInt .i64) (llCons (lInt .i64) (llCons (lSl 23) (llCons (lInt .i64) (llCons (lSl 52) (llCons (lInt .i64) (llCons (lInt .i64) (llCons (lInt .i64) (llCons lStr llNil))))))))))) false (bNil)
def zzv (zo : List Term → Int → Int → Bool × Int) (a : List Term) (limit : Int) (deep : Int) (n_ : Int) (i : Int) (k : Int) (j : Int) (x_ : Atom) : Wy (List Term × Int × Int × Int × Int × Int × Unit × Int × Unit) (Atom × Unit) (List Term × Int × Int × Int × Int × Int) := .i (decide (j < Int.ofNat x_.Items.length)) (.i (decide (n_ ≤ limit)) (.i (decide ((0 : Int) ≤ j) && decide (j < Int.ofNat x_.Items.length)) (.i (decide ((0 : Int) ≤ j) && decide (j < Int.ofNat x_.Items.length)) (.bn (zo (x_.Items.getD j.toNat default).Ann (IntKind.i64.wrap (limit - n_)) (IntKind.i64.wrap (deep - (1 : Int)))) fun r2 => .h (a, limit, deep, (IntKind.i64.wrap (IntKind.i64.wrap (n_ + Int.ofNat (x_.Items.getD j.toNat default).Value.Text.size) + r2)), i, k, (), (IntKind.i64.wrap (j + (1 : Int))), ()) (x_, ())) .d) .d) (.k (a, limit, deep, n_, i, k))) (.k (a, limit, deep, n_, i, k))
def zzn (zo : List Term → Int → Int → Bool × Int) (x : List Term × Int × Int × Int × Int × Int × Unit × Int × Unit) (y : Atom × Unit) : Wy (List Term × Int × Int × Int × Int × Int × Unit × Int × Unit) (Atom × Unit) (List Term × Int × Int × Int × Int × Int) := zzv zo x.1 x.2.1 x.2.2.1 x.2.2.2.1 x.2.2.2.2.1 x.2.2.2.2.2.1 x.2.2.2.2.2.2.2.1 y.1
def zzk (zo : List Term → Int → Int → Bool × Int) (n : Nat) (a : List Term) (limit : Int) (deep : Int) (n_ : Int) (i : Int) (k : Int) (j : Int) (x_ : Atom) : Bool × (List Term × Int × Int × Int × Int × Int) := iterW (zzn zo) default n (a, limit, deep, n_, i, k, (), j, ()) (x_, ())
def z7n (r : List Term × Int × Int × Int × Int × Int) : LTree ty := .done (.exit 6) [.sl 42 r.1, .lit (.int .i64 r.2.1), .lit (.int .i64 r.2.2.1), .lit (.int .i64 r.2.2.2.1), .lit (.int .i64 r.2.2.2.2.1), .lit (.int .i64 r.2.2.2.2.2)] []
def zbar : LL ty (List Term × Int × Int × Int × Int × Int × Unit × Int × Unit) := llCons (lSl 42) (llCons (lInt .i64) (llCons (lInt .i64) (llCons (lInt .i64) (llCons (lInt .i64) (llCons (lInt .i64) (llCons (lPtrC 544 0) (llCons (lInt .i64) llNil)))))))
def zbap : BL ty (Atom × Unit) := bBox (llMap (fun x => (⟨x.1, ⟨x.2.1, x.2.2.1⟩, x.2.2.2.1, x.2.2.2.2.1, x.2.2.2.2.2.1, x.2.2.2.2.2.2.1, ⟨x.2.2.2.2.2.2.2.1, x.2.2.2.2.2.2.2.2.1, x.2.2.2.2.2.2.2.2.2.1⟩⟩ : Atom)) (fun x => (x.Kind, x.Row.Table, x.Row.Seq, x.Args, x.Func, x.Items, x.Op, x.Bound.Kind, x.Bound.Int, x.Bound.Text, ())) (fun _ => rfl) (llCons (lInt .i64) (llCons (lInt .i64) (llCons (lInt .i64) (llCons (lSl 23) (llCons (lInt .i64) (llCons (lSl 52) (llCons (lInt .i64) (llCons (lInt .i64) (llCons (lInt .i64) (llCons lStr llNil))))))))))) false (bNil)
def z1i (zo : List Term → Int → Int → Bool × Int) (a : List Term) (limit : Int) (deep : Int) (n_ : Int) (i : Int) (k : Int) : Wy (List Term × Int × Int × Int × Int × Int × Unit) (Unit) (List Term × Int × Int × Int × Int) := .i (decide ((0 : Int) ≤ i) && decide (i < Int.ofNat a.length)) (.i (decide (k < Int.ofNat (a.getD i.toNat default).Factors.length)) (.i (decide (n_ ≤ limit)) (.i (decide ((0 : Int) ≤ i) && decide (i < Int.ofNat a.length)) (.i (decide ((0 : Int) ≤ k) && decide (k < Int.ofNat (a.getD i.toNat default).Factors.length)) (.bn (zza zo ((a.length + limit.toNat + deep.toNat + (IntKind.i64.wrap (IntKind.i64.wrap (IntKind.i64.wrap (n_ + Int.ofNat ((a.getD i.toNat default).Factors.getD k.toNat default).Atom.Items.length) + Int.ofNat ((a.getD i.toNat default).Factors.getD k.toNat default).Atom.Args.length) + Int.ofNat ((a.getD i.toNat default).Factors.getD k.toNat default).Atom.Bound.Text.size)).toNat + i.toNat + k.toNat + Int.toNat (0 : Int) + (1 : Nat)) + (Atom.mk ((a.getD i.toNat default).Factors.getD k.toNat default).Atom.Kind ((a.getD i.toNat default).Factors.getD k.toNat default).Atom.Row ((a.getD i.toNat default).Factors.getD k.toNat default).Atom.Args ((a.getD i.toNat default).Factors.getD k.toNat default).Atom.Func ((a.getD i.toNat default).Factors.getD k.toNat default).Atom.Items ((a.getD i.toNat default).Factors.getD k.toNat default).Atom.Op ((a.getD i.toNat default).Factors.getD k.toNat default).Atom.Bound).Args.length + (Atom.mk ((a.getD i.toNat default).Factors.getD k.toNat default).Atom.Kind ((a.getD i.toNat default).Factors.getD k.toNat default).Atom.Row ((a.getD i.toNat default).Factors.getD k.toNat default).Atom.Args ((a.getD i.toNat default).Factors.getD k.toNat default).Atom.Func ((a.getD i.toNat default).Factors.getD k.toNat default).Atom.Items ((a.getD i.toNat default).Factors.getD k.toNat default).Atom.Op ((a.getD i.toNat default).Factors.getD k.toNat default).Atom.Bound).Items.length) a limit deep (IntKind.i64.wrap (IntKind.i64.wrap (IntKind.i64.wrap (n_ + Int.ofNat ((a.getD i.toNat default).Factors.getD k.toNat default).Atom.Items.length) + Int.ofNat ((a.getD i.toNat default).Factors.getD k.toNat default).Atom.Args.length) + Int.ofNat ((a.getD i.toNat default).Factors.getD k.toNat default).Atom.Bound.Text.size)) i k (0 : Int) (Atom.mk ((a.getD i.toNat default).Factors.getD k.toNat default).Atom.Kind ((a.getD i.toNat default).Factors.getD k.toNat default).Atom.Row ((a.getD i.toNat default).Factors.getD k.toNat default).Atom.Args ((a.getD i.toNat default).Factors.getD k.toNat default).Atom.Func ((a.getD i.toNat default).Factors.getD k.toNat default).Atom.Items ((a.getD i.toNat default).Factors.getD k.toNat default).Atom.Op ((a.getD i.toNat default).Factors.getD k.toNat default).Atom.Bound)) fun r5 => .bn (zzk zo ((r5.fst.length + r5.snd.fst.toNat + r5.snd.snd.fst.toNat + r5.snd.snd.snd.fst.toNat + r5.snd.snd.snd.snd.fst.toNat + r5.snd.snd.snd.snd.snd.fst.toNat + Int.toNat (0 : Int) + (1 : Nat)) + (Atom.mk r5.snd.snd.snd.snd.snd.snd.Kind r5.snd.snd.snd.snd.snd.snd.Row r5.snd.snd.snd.snd.snd.snd.Args r5.snd.snd.snd.snd.snd.snd.Func r5.snd.snd.snd.snd.snd.snd.Items r5.snd.snd.snd.snd.snd.snd.Op r5.snd.snd.snd.snd.snd.snd.Bound).Args.length + (Atom.mk r5.snd.snd.snd.snd.snd.snd.Kind r5.snd.snd.snd.snd.snd.snd.Row r5.snd.snd.snd.snd.snd.snd.Args r5.snd.snd.snd.snd.snd.snd.Func r5.snd.snd.snd.snd.snd.snd.Items r5.snd.snd.snd.snd.snd.snd.Op r5.snd.snd.snd.snd.snd.snd.Bound).Items.length) r5.fst r5.snd.fst r5.snd.snd.fst r5.snd.snd.snd.fst r5.snd.snd.snd.snd.fst r5.snd.snd.snd.snd.snd.fst (0 : Int) (Atom.mk r5.snd.snd.snd.snd.snd.snd.Kind r5.snd.snd.snd.snd.snd.snd.Row r5.snd.snd.snd.snd.snd.snd.Args r5.snd.snd.snd.snd.snd.snd.Func r5.snd.snd.snd.snd.snd.snd.Items r5.snd.snd.snd.snd.snd.snd.Op r5.snd.snd.snd.snd.snd.snd.Bound)) fun r4 => .h ((r4.fst), (r4.snd.fst), (r4.snd.snd.fst), (r4.snd.snd.snd.fst), (r4.snd.snd.snd.snd.fst), (IntKind.i64.wrap (r4.snd.snd.snd.snd.snd + (1 : Int))), ()) ()) .d) .d) (.k (a, limit, deep, n_, i))) (.k (a, limit, deep, n_, i))) .d
def z1f (zo : List Term → Int → Int → Bool × Int) (x : List Term × Int × Int × Int × Int × Int × Unit) (y : Unit) : Wy (List Term × Int × Int × Int × Int × Int × Unit) (Unit) (List Term × Int × Int × Int × Int) := z1i zo x.1 x.2.1 x.2.2.1 x.2.2.2.1 x.2.2.2.2.1 x.2.2.2.2.2.1
def z1p (zo : List Term → Int → Int → Bool × Int) (n : Nat) (a : List Term) (limit : Int) (deep : Int) (n_ : Int) (i : Int) (k : Int) : Bool × (List Term × Int × Int × Int × Int) := iterW (z1f zo) default n (a, limit, deep, n_, i, k, ()) ()
def z86 (r : List Term × Int × Int × Int × Int) : LTree ty := .done (.exit 2) [.sl 42 r.1, .lit (.int .i64 r.2.1), .lit (.int .i64 r.2.2.1), .lit (.int .i64 r.2.2.2.1), .lit (.int .i64 r.2.2.2.2)] []
def zbb5 : LL ty (List Term × Int × Int × Int × Int × Int × Unit) := llCons (lSl 42) (llCons (lInt .i64) (llCons (lInt .i64) (llCons (lInt .i64) (llCons (lInt .i64) (llCons (lInt .i64) llNil)))))
def zbcj : BL ty (Unit) := bNil
def z1b (zo : List Term → Int → Int → Bool × Int) (a : List Term) (limit : Int) (deep : Int) (n_ : Int) (i : Int) : Wy (List Term × Int × Int × Int × Int × Unit) (Unit) (Int) := .i (decide (i < Int.ofNat a.length)) (.i (decide (n_ ≤ limit)) (.i (decide ((0 : Int) ≤ i) && decide (i < Int.ofNat a.length)) (.bn (z1p zo (a.length + limit.toNat + deep.toNat + (IntKind.i64.wrap (IntKind.i64.wrap (n_ + (1 : Int)) + Int.ofNat (a.getD i.toNat default).Factors.length)).toNat + i.toNat + Int.toNat (0 : Int) + (1 : Nat)) a limit deep (IntKind.i64.wrap (IntKind.i64.wrap (n_ + (1 : Int)) + Int.ofNat (a.getD i.toNat default).Factors.length)) i (0 : Int)) fun r8 => .h ((r8.fst), (r8.snd.fst), (r8.snd.snd.fst), (r8.snd.snd.snd.fst), (IntKind.i64.wrap (r8.snd.snd.snd.snd + (1 : Int))), ()) ()) .d) (.k n_)) (.k n_)
def z1h (zo : List Term → Int → Int → Bool × Int) (x : List Term × Int × Int × Int × Int × Unit) (y : Unit) : Wy (List Term × Int × Int × Int × Int × Unit) (Unit) (Int) := z1b zo x.1 x.2.1 x.2.2.1 x.2.2.2.1 x.2.2.2.2.1
def z1n (zo : List Term → Int → Int → Bool × Int) (n : Nat) (a : List Term) (limit : Int) (deep : Int) (n_ : Int) (i : Int) : Bool × Int := iterW (z1h zo) default n (a, limit, deep, n_, i, ()) ()
def z82 (r : Int) : LTree ty := .done (.exit 0) [.lit (.int .i64 r)] []
def zbbz : LL ty (List Term × Int × Int × Int × Int × Unit) := llCons (lSl 42) (llCons (lInt .i64) (llCons (lInt .i64) (llCons (lInt .i64) (llCons (lInt .i64) llNil))))
def zbb8 : BL ty (Unit) := bNil
def zqa (zo : List Term → Int → Int → Bool × Int) : Cx ty := mkCx base 136 [(52, (zuw zo))] [] [(5, [(0, .keep), (1, .keep), (2, .keep), (7, .keep), (8, .keep)]), (9, [(0, .keep), (1, .keep), (2, .keep), (7, .keep), (8, .keep), (9, .keep)]), (14, [(0, .keep), (1, .keep), (2, .keep), (7, .keep), (8, .keep), (9, .keep), (10, .keep), (11, .keep)]), (18, [(0, .keep), (1, .keep), (2, .keep), (7, .keep), (8, .keep), (9, .keep), (10, .keep), (12, .keep)])] [(5, 1, [(7, .keep)]), (9, 3, [(0, .keep), (1, .keep), (2, .keep), (7, .keep), (8, .keep)]), (14, 5, [(0, .keep), (1, .keep), (2, .keep), (7, .keep), (8, .keep), (9, .keep), (10, .keep)]), (18, 7, [(0, .keep), (1, .keep), (2, .keep), (7, .keep), (8, .keep), (9, .keep)])] [(14, spW z89 z8v (zzj zo) default z7k fun x y => ((x.1.length + Int.toNat x.2.1 + Int.toNat x.2.2.1 + Int.toNat x.2.2.2.1 + Int.toNat x.2.2.2.2.1 + Int.toNat x.2.2.2.2.2.1 + Int.toNat x.2.2.2.2.2.2.2.1 + 1) + y.1.Args.length + y.1.Items.length)), (18, spW zbar zbap (zzn zo) default z7n fun x y => ((x.1.length + Int.toNat x.2.1 + Int.toNat x.2.2.1 + Int.toNat x.2.2.2.1 + Int.toNat x.2.2.2.2.1 + Int.toNat x.2.2.2.2.2.1 + Int.toNat x.2.2.2.2.2.2.2.1 + 1) + y.1.Args.length + y.1.Items.length)), (9, spW zbb5 zbcj (z1f zo) default z86 fun x y => (x.1.length + Int.toNat x.2.1 + Int.toNat x.2.2.1 + Int.toNat x.2.2.2.1 + Int.toNat x.2.2.2.2.1 + Int.toNat x.2.2.2.2.2.1 + 1)), (5, spW zbbz zbb8 (z1h zo) default z82 fun x y => (x.1.length + Int.toNat x.2.1 + Int.toNat x.2.2.1 + Int.toNat x.2.2.2.1 + Int.toNat x.2.2.2.2.1 + 1))] []
theorem zbkz (zo : List Term → Int → Int → Bool × Int) : LoopOK (zqa zo) (lp (body Tryz.f52) 2) := loopOK_W (id := 14) (V := z89) (B := z8v) (W := zzj zo) (z := default) (tr := z7k) (m := fun x y => ((x.1.length + Int.toNat x.2.1 + Int.toNat x.2.2.1 + Int.toNat x.2.2.2.1 + Int.toNat x.2.2.2.2.1 + Int.toNat x.2.2.2.2.2.1 + Int.toNat x.2.2.2.2.2.2.2.1 + 1) + y.1.Args.length + y.1.Items.length)) (by kernel_rfl) (by kernel_rfl) fun R H K x y => by kernel_rfl
theorem zbkw (zo : List Term → Int → Int → Bool × Int) : LoopOK (zqa zo) (lp (body Tryz.f52) 3) := loopOK_W (id := 18) (V := zbar) (B := zbap) (W := zzn zo) (z := default) (tr := z7n) (m := fun x y => ((x.1.length + Int.toNat x.2.1 + Int.toNat x.2.2.1 + Int.toNat x.2.2.2.1 + Int.toNat x.2.2.2.2.1 + Int.toNat x.2.2.2.2.2.1 + Int.toNat x.2.2.2.2.2.2.2.1 + 1) + y.1.Args.length + y.1.Items.length)) (by kernel_rfl) (by kernel_rfl) fun R H K x y => by kernel_rfl
theorem zbli (zo : List Term → Int → Int → Bool × Int) : LoopOK (zqa zo) (lp (body Tryz.f52) 1) := loopOK_W (id := 9) (V := zbb5) (B := zbcj) (W := z1f zo) (z := default) (tr := z86) (m := fun x y => (x.1.length + Int.toNat x.2.1 + Int.toNat x.2.2.1 + Int.toNat x.2.2.2.1 + Int.toNat x.2.2.2.2.1 + Int.toNat x.2.2.2.2.2.1 + 1)) (by kernel_rfl) (by kernel_rfl) fun R H K x y => by kernel_rfl
theorem zbll (zo : List Term → Int → Int → Bool × Int) : LoopOK (zqa zo) (lp (body Tryz.f52) 0) := loopOK_W (id := 5) (V := zbbz) (B := zbb8) (W := z1h zo) (z := default) (tr := z82) (m := fun x y => (x.1.length + Int.toNat x.2.1 + Int.toNat x.2.2.1 + Int.toNat x.2.2.2.1 + Int.toNat x.2.2.2.2.1 + 1)) (by kernel_rfl) (by kernel_rfl) fun R H K x y => by kernel_rfl
def zv6 (zo : List Term → Int → Int → Bool × Int) (a : List Term) (limit : Int) (deep : Int) : Wy0 (Int) := .i (deep == (0 : Int)) (.k (IntKind.i64.wrap (limit + (1 : Int)))) (.bn (z1n zo (a.length + limit.toNat + deep.toNat + Int.toNat (0 : Int) + Int.toNat (0 : Int) + (1 : Nat)) a limit deep (0 : Int) (0 : Int)) fun r10 => .k r10)
def zu4 (zo : List Term → Int → Int → Bool × Int) (a : List Term) (limit : Int) (deep : Int) : Bool × Int := (zv6 zo a limit deep).fin default
theorem zbjf (zo : List Term → Int → Int → Bool × Int) (zbnh : Sound Tryz.prog base 52 (zuw zo)) : Sound Tryz.prog base 52 (zuw (zu4 zo)) :=
  sound_W (cx' := (zqa zo)) draws base_ok mkSame (mkSpecs ⟨(zbnh), trivial⟩) Tryz.call52 Tryz.func52 (c := body Tryz.f52) (by kernel_rfl) (loopsOK_of (l := [lp (body Tryz.f52) 0, lp (body Tryz.f52) 1, lp (body Tryz.f52) 2, lp (body Tryz.f52) 3]) (by kernel_rfl) ⟨zbll zo, zbli zo, zbkz zo, zbkw zo, trivial⟩) (sg := ⟨[.pure], []⟩) (A := zbhp) (res := zbeq) (W := fun x => zv6 zo x.1 x.2.1 x.2.2.1) (z := default) (fun x => by kernel_rfl) (fun _ => by kernel_rfl)
def zbm6 : Nat → (List Term → Int → Int → Bool × Int)
  | 0 => fun _ _ _ => (false, default)
  | n + 1 => zu4 (zbm6 n)
def zq6 (n : Nat) : List Term → Int → Int → Bool × Int := zbm6 n
theorem zbby (n : Nat) : zq6 (n + 1) = zu4 (zq6 n) := rfl
theorem zbkj : ∀ n, Sound Tryz.prog base 52 (zuw (zq6 n))
  | 0 => sound_false Tryz.call52 (fun _ => rfl)
  | n + 1 => by
    have ih := zbkj n
    exact zbjf _ (ih)
def zbei : List Term → Int → Int → Bool × Int := zq6 1000
def zbbs : Ab.Spec ty := zuw zbei
theorem zblo : Sound Tryz.prog base 52 zbbs := (zbkj 1000)
def zbej (limit : Int) (l : List (List Term)) (i : Int) : Wy (Int × List (List Term) × Int × Unit) (Unit) (Bool ⊕ Unit) := .i (decide (i < Int.ofNat l.length)) (.i (decide ((0 : Int) ≤ i) && decide (i < Int.ofNat l.length)) (.bn (zbei (l.getD i.toNat default) limit (12 : Int)) fun r0 => .i (decide (r0 > limit)) (.k (.inl false)) (.h (limit, l, (IntKind.i64.wrap (i + (1 : Int))), ()) ())) .d) (.k (.inr ()))
def zbd3 (x : Int × List (List Term) × Int × Unit) (y : Unit) : Wy (Int × List (List Term) × Int × Unit) (Unit) (Bool ⊕ Unit) := zbej x.1 x.2.1 x.2.2.1
def zbes (n : Nat) (limit : Int) (l : List (List Term)) (i : Int) : Bool × (Bool ⊕ Unit) := iterW (zbd3) (.inl default) n (limit, l, i, ()) ()
def zbj2 (r : Bool ⊕ Unit) : LTree ty := .ite (isL r) (.done .ret [.lit (.bool (getL r))] []) (.done (.exit 0) [] [])
def zblg : LL ty (Int × List (List Term) × Int × Unit) := llCons (lInt .i64) (llCons (lSl 23) (llCons (lInt .i64) llNil))
def zbl5 : BL ty (Unit) := bNil
def zbmb : Cx ty := mkCx base 20 [(52, zbbs)] [] [(2, [(0, .keep), (1, .keep), (5, .keep)])] [(2, 1, []), (2, 0, [(4, .keep)])] [(2, spW zblg zbl5 (zbd3) (.inl default) zbj2 fun x y => (Int.toNat x.1 + x.2.1.length + Int.toNat x.2.2.1 + 1))] []
theorem zbqb : LoopOK zbmb (lp (body Tryz.f12) 0) := loopOK_W (id := 2) (V := zblg) (B := zbl5) (W := zbd3) (z := .inl default) (tr := zbj2) (m := fun x y => (Int.toNat x.1 + x.2.1.length + Int.toNat x.2.2.1 + 1)) (by kernel_rfl) (by kernel_rfl) fun R H K x y => by kernel_rfl
def zbgz (limit : Int) (l : List (List Term)) : Wy0 (Bool) := .bn (zbes (limit.toNat + l.length + Int.toNat (0 : Int) + (1 : Nat)) limit l (0 : Int)) fun r2 => .i (isL r2) (.k (getL r2)) (.k true)
def z3w (limit : Int) (l : List (List Term)) : Bool × Bool := (zbgz limit l).fin default
def zbjx (r : Bool) : ARes ty := ⟨[.pure (.lit (.bool r))], []⟩
def zbng : AL base (Int × List (List Term) × Unit) := aCons (aPure (vInt .i64)) (aCons (aPure (vSl 23)) aNil)
def zbis : Ab.Spec ty := mkSpec zbng fun x => ((z3w x.1 x.2.1).1, zbjx (z3w x.1 x.2.1).2)
theorem zbof : Sound Tryz.prog base 12 zbis :=
  sound_W (cx' := zbmb) draws base_ok mkSame (mkSpecs ⟨(zblo), trivial⟩) Tryz.call12 Tryz.func12 (c := body Tryz.f12) (by kernel_rfl) (loopsOK_of (l := [lp (body Tryz.f12) 0]) (by kernel_rfl) ⟨zbqb, trivial⟩) (sg := ⟨[.pure], []⟩) (A := zbng) (res := zbjx) (W := fun x => zbgz x.1 x.2.1) (z := default) (fun x => by kernel_rfl) (fun _ => by kernel_rfl)
def zu3 (l : List Weighted) (i : Int) (k : Int) (out_ : List Weighted) : Wy (List Weighted × Unit × Int × Int × Unit) (List Weighted × Unit) (List Weighted × Int × Int × List Weighted) := .i (decide (k < Int.ofNat out_.length)) (.i (decide ((0 : Int) ≤ k) && decide (k ≤ IntKind.i64.wrap (k + (1 : Int))) && decide (IntKind.i64.wrap (k + (1 : Int)) ≤ Int.ofNat out_.length)) (.i (decide ((0 : Int) ≤ i) && decide (i ≤ IntKind.i64.wrap (i + (1 : Int))) && decide (IntKind.i64.wrap (i + (1 : Int)) ≤ Int.ofNat l.length)) (.bn (zoo (List.take ((IntKind.i64.wrap (k + (1 : Int))).toNat - k.toNat) (List.drop k.toNat out_)) (List.take ((IntKind.i64.wrap (i + (1 : Int))).toNat - i.toNat) (List.drop i.toNat l))) fun r0 => .i (decide (r0 ≤ (0 : Int))) (.h (l, (), i, (IntKind.i64.wrap (k + (1 : Int))), ()) (out_, ())) (.k (l, i, k, out_))) .d) .d) (.k (l, i, k, out_))
def zz8 (x : List Weighted × Unit × Int × Int × Unit) (y : List Weighted × Unit) : Wy (List Weighted × Unit × Int × Int × Unit) (List Weighted × Unit) (List Weighted × Int × Int × List Weighted) := zu3 x.1 x.2.2.1 x.2.2.2.1 y.1
def zbiw (n : Nat) (l : List Weighted) (i : Int) (k : Int) (out_ : List Weighted) : Bool × (List Weighted × Int × Int × List Weighted) := iterW (zz8) default n (l, (), i, k, ()) (out_, ())
def zbgf (r : List Weighted × Int × Int × List Weighted) : LTree ty := .done (.exit 2) [.sl 52 r.1, .own 224, .lit (.int .i64 r.2.1), .lit (.int .i64 r.2.2.1)] [.arr 52 r.2.2.2 false]
def zbiu : LL ty (List Weighted × Unit × Int × Int × Unit) := llCons (lSl 52) (llCons (lOwn 224) (llCons (lInt .i64) (llCons (lInt .i64) llNil)))
def zbi0 : BL ty (List Weighted × Unit) := bArr 52 false (bNil)
def zu6 (l : List Weighted) (i : Int) (out_ : List Weighted) : Wy (List Weighted × Unit × Int × Unit) (List Weighted × Unit) (List Weighted) := .i (decide (i < Int.ofNat l.length)) (.i (decide ((0 : Int) ≤ i) && decide (i < Int.ofNat l.length)) (.i (Int.ofNat (l.getD i.toNat default).Ann.length == (0 : Int)) (.h (l, (), (IntKind.i64.wrap (i + (1 : Int))), ()) (out_, ())) (.bn (zbiw (l.length + i.toNat + Int.toNat (0 : Int) + out_.length + (1 : Nat)) l i (0 : Int) out_) fun r2 => .i (decide ((0 : Int) ≤ (0 : Int)) && decide ((0 : Int) ≤ r2.snd.snd.fst) && decide (r2.snd.snd.fst ≤ Int.ofNat r2.snd.snd.snd.length)) (.i (decide (((0 : Nat) + (List.take (r2.snd.snd.fst.toNat - Int.toNat (0 : Int)) (List.drop (Int.toNat (0 : Int)) r2.snd.snd.snd)).length) * (56 : Nat) ≤ reach)) (.i (decide ((0 : Int) ≤ r2.snd.fst) && decide (r2.snd.fst < Int.ofNat r2.fst.length)) (.i (decide ((([] ++ List.take (r2.snd.snd.fst.toNat - Int.toNat (0 : Int)) (List.drop (Int.toNat (0 : Int)) r2.snd.snd.snd)).length + [r2.fst.getD r2.snd.fst.toNat default].length) * (56 : Nat) ≤ reach)) (.i (decide ((0 : Int) ≤ r2.snd.snd.fst) && decide (r2.snd.snd.fst ≤ Int.ofNat r2.snd.snd.snd.length) && decide (Int.ofNat r2.snd.snd.snd.length ≤ Int.ofNat r2.snd.snd.snd.length)) (.i (decide ((([] ++ List.take (r2.snd.snd.fst.toNat - Int.toNat (0 : Int)) (List.drop (Int.toNat (0 : Int)) r2.snd.snd.snd) ++ [r2.fst.getD r2.snd.fst.toNat default]).length + (List.take ((Int.ofNat r2.snd.snd.snd.length).toNat - r2.snd.snd.fst.toNat) (List.drop r2.snd.snd.fst.toNat r2.snd.snd.snd)).length) * (56 : Nat) ≤ reach)) (.h ((r2.fst), (), (IntKind.i64.wrap (r2.snd.fst + (1 : Int))), ()) (([] ++ List.take (r2.snd.snd.fst.toNat - Int.toNat (0 : Int)) (List.drop (Int.toNat (0 : Int)) r2.snd.snd.snd) ++ [r2.fst.getD r2.snd.fst.toNat default] ++ List.take ((Int.ofNat r2.snd.snd.snd.length).toNat - r2.snd.snd.fst.toNat) (List.drop r2.snd.snd.fst.toNat r2.snd.snd.snd)), ())) .d) .d) .d) .d) .d) .d)) .d) (.k out_)
def zz3 (x : List Weighted × Unit × Int × Unit) (y : List Weighted × Unit) : Wy (List Weighted × Unit × Int × Unit) (List Weighted × Unit) (List Weighted) := zu6 x.1 x.2.2.1 y.1
def zbiy (n : Nat) (l : List Weighted) (i : Int) (out_ : List Weighted) : Bool × List Weighted := iterW (zz3) default n (l, (), i, ()) (out_, ())
def zbgt (r : List Weighted) : LTree ty := .done (.exit 0) [.own 224] [.arr 52 r false]
def zbij : LL ty (List Weighted × Unit × Int × Unit) := llCons (lSl 52) (llCons (lOwn 224) (llCons (lInt .i64) llNil))
def zbix : BL ty (List Weighted × Unit) := bArr 52 false (bNil)
def z8f : Cx ty := mkCx base 56 [(35, zni)] [] [(3, [(0, .keep), (3, .keep), (4, .keep)]), (7, [(0, .keep), (3, .keep), (4, .keep), (5, .keep)])] [(3, 1, [(3, .keep)]), (7, 3, [(0, .keep), (3, .keep), (4, .keep), (5, .keep)])] [(7, spW zbiu zbi0 (zz8) default zbgf fun x y => (x.1.length + Int.toNat x.2.2.1 + Int.toNat x.2.2.2.1 + y.1.length + 1)), (3, spW zbij zbix (zz3) default zbgt fun x y => (x.1.length + Int.toNat x.2.2.1 + y.1.length + 1))] []
theorem zbov : LoopOK z8f (lp (body Tryz.f37) 1) := loopOK_W (id := 7) (V := zbiu) (B := zbi0) (W := zz8) (z := default) (tr := zbgf) (m := fun x y => (x.1.length + Int.toNat x.2.2.1 + Int.toNat x.2.2.2.1 + y.1.length + 1)) (by kernel_rfl) (by kernel_rfl) fun R H K x y => by kernel_rfl
theorem zbog : LoopOK z8f (lp (body Tryz.f37) 0) := loopOK_W (id := 3) (V := zbij) (B := zbix) (W := zz3) (z := default) (tr := zbgt) (m := fun x y => (x.1.length + Int.toNat x.2.2.1 + y.1.length + 1)) (by kernel_rfl) (by kernel_rfl) fun R H K x y => by kernel_rfl
def zbbh (l : List Weighted) : Wy0 (List Weighted) := .bn (zbiy (l.length + Int.toNat (0 : Int) + (0 : Nat) + (1 : Nat)) l (0 : Int) []) fun r4 => .k r4
def zxh (l : List Weighted) : Bool × List Weighted := (zbbh l).fin default
def zbf0 (r : List Weighted) : ARes ty := ⟨[.own 52 r], []⟩
def zbj0 : AL base (List Weighted × Unit) := aCons (aPure (vSl 52)) aNil
def z3a : Ab.Spec ty := mkSpec zbj0 fun x => ((zxh x.1).1, zbf0 (zxh x.1).2)
theorem zbcb : Sound Tryz.prog base 37 z3a :=
  sound_W (cx' := z8f) draws base_ok mkSame (mkSpecs ⟨(zrq), trivial⟩) Tryz.call37 Tryz.func37 (c := body Tryz.f37) (by kernel_rfl) (loopsOK_of (l := [lp (body Tryz.f37) 0, lp (body Tryz.f37) 1]) (by kernel_rfl) ⟨zbog, zbov, trivial⟩) (sg := ⟨[.own 52], []⟩) (A := zbj0) (res := zbf0) (W := fun x => zbbh x.1) (z := default) (fun x => by kernel_rfl) (fun _ => by kernel_rfl)
end Go.Proofs.YtnolcogncjijpaaGreatDoor
/- What lies inside lists of terms and factors: fuel for loops. -/
namespace Go.Proofs.YtnolcogncjijpaaGreatDoor
def szFs : List Factor → Nat
  | [] => 0
  | f :: r => f.Exp.toNat + f.Atom.Args.length + f.Atom.Items.length + 1 + szFs r
def szTs : List Term → Nat
  | [] => 0
  | t :: r => szFs t.Factors + 1 + szTs r
end Go.Proofs.YtnolcogncjijpaaGreatDoor
namespace Go.Proofs.YtnolcogncjijpaaGreatDoor
open Go Go.Ab
def zbgk (r : Bool) : ARes ty := ⟨[.pure (.lit (.bool r))], []⟩
def zbka : AL base (List Term × Unit) := aCons (aPure (vSl 42)) aNil
def zxf (F : List Term → Bool × Bool) : Ab.Spec ty := mkSpec zbka fun x => ((F x.1).1, zbgk (F x.1).2)
def z7b (r : Bool) : ARes ty := ⟨[.pure (.lit (.bool r))], []⟩
def zbcu : AL base (Atom × Unit) := aCons (aPure (vAgg 48)) aNil
def zp2 (F : Atom → Bool × Bool) : Ab.Spec ty := mkSpec zbcu fun x => ((F x.1).1, z7b (F x.1).2)
def zbb0 (r : Int) : ARes ty := ⟨[.pure (.lit (.int .i64 r))], []⟩
def zbf5 : AL base (List Term × Unit) := aCons (aPure (vSl 42)) aNil
def zs5 (F : List Term → Bool × Int) : Ab.Spec ty := mkSpec zbf5 fun x => ((F x.1).1, zbb0 (F x.1).2)
def znr (zk : List Term → Bool × Int) (a : List Term) (most : Int) (i : Int) (k : Int) (n_ : Int) (j : Int) (x_ : Atom) : Wy (List Term × Int × Int × Int × Unit × Int × Int × Unit) (Atom × Unit) (List Term × Int × Int × Int × Int × Atom) := .i (decide (j < Int.ofNat x_.Args.length)) (.i (decide ((0 : Int) ≤ j) && decide (j < Int.ofNat x_.Args.length)) (.bn (zk (x_.Args.getD j.toNat default)) fun r0 => .h (a, most, i, k, (), (if IntKind.i64.wrap ((1 : Int) + r0) > n_ then IntKind.i64.wrap ((1 : Int) + r0) else n_), (IntKind.i64.wrap (j + (1 : Int))), ()) (x_, ())) .d) (.k (a, most, i, k, n_, x_))
def zr5 (zk : List Term → Bool × Int) (x : List Term × Int × Int × Int × Unit × Int × Int × Unit) (y : Atom × Unit) : Wy (List Term × Int × Int × Int × Unit × Int × Int × Unit) (Atom × Unit) (List Term × Int × Int × Int × Int × Atom) := znr zk x.1 x.2.1 x.2.2.1 x.2.2.2.1 x.2.2.2.2.2.1 x.2.2.2.2.2.2.1 y.1
def zxo (zk : List Term → Bool × Int) (n : Nat) (a : List Term) (most : Int) (i : Int) (k : Int) (n_ : Int) (j : Int) (x_ : Atom) : Bool × (List Term × Int × Int × Int × Int × Atom) := iterW (zr5 zk) default n (a, most, i, k, (), n_, j, ()) (x_, ())
def z5e (r : List Term × Int × Int × Int × Int × Atom) : LTree ty := .done (.exit 4) [.sl 42 r.1, .lit (.int .i64 r.2.1), .lit (.int .i64 r.2.2.1), .lit (.int .i64 r.2.2.2.1), .ptr 300 0, .lit (.int .i64 r.2.2.2.2.1)] [.box (base.enc 48 r.2.2.2.2.2) false]
def z7a : LL ty (List Term × Int × Int × Int × Unit × Int × Int × Unit) := llCons (lSl 42) (llCons (lInt .i64) (llCons (lInt .i64) (llCons (lInt .i64) (llCons (lPtrC 300 0) (llCons (lInt .i64) (llCons (lInt .i64) llNil))))))
def z6w : BL ty (Atom × Unit) := bBox (llMap (fun x => (⟨x.1, ⟨x.2.1, x.2.2.1⟩, x.2.2.2.1, x.2.2.2.2.1, x.2.2.2.2.2.1, x.2.2.2.2.2.2.1, ⟨x.2.2.2.2.2.2.2.1, x.2.2.2.2.2.2.2.2.1, x.2.2.2.2.2.2.2.2.2.1⟩⟩ : Atom)) (fun x => (x.Kind, x.Row.Table, x.Row.Seq, x.Args, x.Func, x.Items, x.Op, x.Bound.Kind, x.Bound.Int, x.Bound.Text, ())) (fun _ => rfl) (llCons (lInt .i64) (llCons (lInt .i64) (llCons (lInt .i64) (llCons (lSl 23) (llCons (lInt .i64) (llCons (lSl 52) (llCons (lInt .i64) (llCons (lInt .i64) (llCons (lInt .i64) (llCons lStr llNil))))))))))) false (bNil)
def znp (zk : List Term → Bool × Int) (a : List Term) (most : Int) (i : Int) (k : Int) (n_ : Int) (j : Int) (x_ : Atom) : Wy (List Term × Int × Int × Int × Unit × Int × Int × Unit) (Atom × Unit) (List Term × Int × Int × Int × Int) := .i (decide (j < Int.ofNat x_.Items.length)) (.i (decide ((0 : Int) ≤ j) && decide (j < Int.ofNat x_.Items.length)) (.bn (zk (x_.Items.getD j.toNat default).Ann) fun r2 => .h (a, most, i, k, (), (if IntKind.i64.wrap ((1 : Int) + r2) > n_ then IntKind.i64.wrap ((1 : Int) + r2) else n_), (IntKind.i64.wrap (j + (1 : Int))), ()) (x_, ())) .d) (.k (a, most, i, k, n_))
def zr4 (zk : List Term → Bool × Int) (x : List Term × Int × Int × Int × Unit × Int × Int × Unit) (y : Atom × Unit) : Wy (List Term × Int × Int × Int × Unit × Int × Int × Unit) (Atom × Unit) (List Term × Int × Int × Int × Int) := znp zk x.1 x.2.1 x.2.2.1 x.2.2.2.1 x.2.2.2.2.2.1 x.2.2.2.2.2.2.1 y.1
def z64 (zk : List Term → Bool × Int) (n : Nat) (a : List Term) (most : Int) (i : Int) (k : Int) (n_ : Int) (j : Int) (x_ : Atom) : Bool × (List Term × Int × Int × Int × Int) := iterW (zr4 zk) default n (a, most, i, k, (), n_, j, ()) (x_, ())
def z4w (r : List Term × Int × Int × Int × Int) : LTree ty := .done (.exit 6) [.sl 42 r.1, .lit (.int .i64 r.2.1), .lit (.int .i64 r.2.2.1), .lit (.int .i64 r.2.2.2.1), .lit (.int .i64 r.2.2.2.2)] []
def z67 : LL ty (List Term × Int × Int × Int × Unit × Int × Int × Unit) := llCons (lSl 42) (llCons (lInt .i64) (llCons (lInt .i64) (llCons (lInt .i64) (llCons (lPtrC 300 0) (llCons (lInt .i64) (llCons (lInt .i64) llNil))))))
def z61 : BL ty (Atom × Unit) := bBox (llMap (fun x => (⟨x.1, ⟨x.2.1, x.2.2.1⟩, x.2.2.2.1, x.2.2.2.2.1, x.2.2.2.2.2.1, x.2.2.2.2.2.2.1, ⟨x.2.2.2.2.2.2.2.1, x.2.2.2.2.2.2.2.2.1, x.2.2.2.2.2.2.2.2.2.1⟩⟩ : Atom)) (fun x => (x.Kind, x.Row.Table, x.Row.Seq, x.Args, x.Func, x.Items, x.Op, x.Bound.Kind, x.Bound.Int, x.Bound.Text, ())) (fun _ => rfl) (llCons (lInt .i64) (llCons (lInt .i64) (llCons (lInt .i64) (llCons (lSl 23) (llCons (lInt .i64) (llCons (lSl 52) (llCons (lInt .i64) (llCons (lInt .i64) (llCons (lInt .i64) (llCons lStr llNil))))))))))) false (bNil)
def zo5 (zk : List Term → Bool × Int) (a : List Term) (most : Int) (i : Int) (k : Int) : Wy (List Term × Int × Int × Int × Unit) (Unit) (List Term × Int × Int) := .i (decide ((0 : Int) ≤ i) && decide (i < Int.ofNat a.length)) (.i (decide (k < Int.ofNat (a.getD i.toNat default).Factors.length)) (.i (decide ((0 : Int) ≤ i) && decide (i < Int.ofNat a.length)) (.i (decide ((0 : Int) ≤ k) && decide (k < Int.ofNat (a.getD i.toNat default).Factors.length)) (.i (((a.getD i.toNat default).Factors.getD k.toNat default).Atom.Kind == (0 : Int)) (.h (a, most, i, (IntKind.i64.wrap (k + (1 : Int))), ()) ()) (.bn (zxo zk (((a.length + most.toNat + i.toNat + k.toNat + Int.toNat (1 : Int) + Int.toNat (0 : Int) + (1 : Nat)) + (Atom.mk ((a.getD i.toNat default).Factors.getD k.toNat default).Atom.Kind ((a.getD i.toNat default).Factors.getD k.toNat default).Atom.Row ((a.getD i.toNat default).Factors.getD k.toNat default).Atom.Args ((a.getD i.toNat default).Factors.getD k.toNat default).Atom.Func ((a.getD i.toNat default).Factors.getD k.toNat default).Atom.Items ((a.getD i.toNat default).Factors.getD k.toNat default).Atom.Op ((a.getD i.toNat default).Factors.getD k.toNat default).Atom.Bound).Args.length + (Atom.mk ((a.getD i.toNat default).Factors.getD k.toNat default).Atom.Kind ((a.getD i.toNat default).Factors.getD k.toNat default).Atom.Row ((a.getD i.toNat default).Factors.getD k.toNat default).Atom.Args ((a.getD i.toNat default).Factors.getD k.toNat default).Atom.Func ((a.getD i.toNat default).Factors.getD k.toNat default).Atom.Items ((a.getD i.toNat default).Factors.getD k.toNat default).Atom.Op ((a.getD i.toNat default).Factors.getD k.toNat default).Atom.Bound).Items.length) + szTs a) a most i k (1 : Int) (0 : Int) (Atom.mk ((a.getD i.toNat default).Factors.getD k.toNat default).Atom.Kind ((a.getD i.toNat default).Factors.getD k.toNat default).Atom.Row ((a.getD i.toNat default).Factors.getD k.toNat default).Atom.Args ((a.getD i.toNat default).Factors.getD k.toNat default).Atom.Func ((a.getD i.toNat default).Factors.getD k.toNat default).Atom.Items ((a.getD i.toNat default).Factors.getD k.toNat default).Atom.Op ((a.getD i.toNat default).Factors.getD k.toNat default).Atom.Bound)) fun r5 => .bn (z64 zk (((r5.fst.length + r5.snd.fst.toNat + r5.snd.snd.fst.toNat + r5.snd.snd.snd.fst.toNat + r5.snd.snd.snd.snd.fst.toNat + Int.toNat (0 : Int) + (1 : Nat)) + (Atom.mk r5.snd.snd.snd.snd.snd.Kind r5.snd.snd.snd.snd.snd.Row r5.snd.snd.snd.snd.snd.Args r5.snd.snd.snd.snd.snd.Func r5.snd.snd.snd.snd.snd.Items r5.snd.snd.snd.snd.snd.Op r5.snd.snd.snd.snd.snd.Bound).Args.length + (Atom.mk r5.snd.snd.snd.snd.snd.Kind r5.snd.snd.snd.snd.snd.Row r5.snd.snd.snd.snd.snd.Args r5.snd.snd.snd.snd.snd.Func r5.snd.snd.snd.snd.snd.Items r5.snd.snd.snd.snd.snd.Op r5.snd.snd.snd.snd.snd.Bound).Items.length) + szTs r5.fst) r5.fst r5.snd.fst r5.snd.snd.fst r5.snd.snd.snd.fst r5.snd.snd.snd.snd.fst (0 : Int) (Atom.mk r5.snd.snd.snd.snd.snd.Kind r5.snd.snd.snd.snd.snd.Row r5.snd.snd.snd.snd.snd.Args r5.snd.snd.snd.snd.snd.Func r5.snd.snd.snd.snd.snd.Items r5.snd.snd.snd.snd.snd.Op r5.snd.snd.snd.snd.snd.Bound)) fun r4 => .h ((r4.fst), (if r4.snd.snd.snd.snd > r4.snd.fst then r4.snd.snd.snd.snd else r4.snd.fst), (r4.snd.snd.fst), (IntKind.i64.wrap (r4.snd.snd.snd.fst + (1 : Int))), ()) ())) .d) .d) (.k (a, most, i))) .d
def zs6 (zk : List Term → Bool × Int) (x : List Term × Int × Int × Int × Unit) (y : Unit) : Wy (List Term × Int × Int × Int × Unit) (Unit) (List Term × Int × Int) := zo5 zk x.1 x.2.1 x.2.2.1 x.2.2.2.1
def z90 (zk : List Term → Bool × Int) (n : Nat) (a : List Term) (most : Int) (i : Int) (k : Int) : Bool × (List Term × Int × Int) := iterW (zs6 zk) default n (a, most, i, k, ()) ()
def z60 (r : List Term × Int × Int) : LTree ty := .done (.exit 2) [.sl 42 r.1, .lit (.int .i64 r.2.1), .lit (.int .i64 r.2.2)] []
def z9o : LL ty (List Term × Int × Int × Int × Unit) := llCons (lSl 42) (llCons (lInt .i64) (llCons (lInt .i64) (llCons (lInt .i64) llNil)))
def z96 : BL ty (Unit) := bNil
def zo2 (zk : List Term → Bool × Int) (a : List Term) (most : Int) (i : Int) : Wy (List Term × Int × Int × Unit) (Unit) (Int) := .i (decide (i < Int.ofNat a.length)) (.bn (z90 zk ((a.length + most.toNat + i.toNat + Int.toNat (0 : Int) + (1 : Nat)) + szTs a) a most i (0 : Int)) fun r8 => .h ((r8.fst), (r8.snd.fst), (IntKind.i64.wrap (r8.snd.snd + (1 : Int))), ()) ()) (.k most)
def zs0 (zk : List Term → Bool × Int) (x : List Term × Int × Int × Unit) (y : Unit) : Wy (List Term × Int × Int × Unit) (Unit) (Int) := zo2 zk x.1 x.2.1 x.2.2.1
def z9y (zk : List Term → Bool × Int) (n : Nat) (a : List Term) (most : Int) (i : Int) : Bool × Int := iterW (zs0 zk) default n (a, most, i, ()) ()
def z7f (r : Int) : LTree ty := .done (.exit 0) [.lit (.int .i64 r)] []
def z9x : LL ty (List Term × Int × Int × Unit) := llCons (lSl 42) (llCons (lInt .i64) (llCons (lInt .i64) llNil))
def z9v : BL ty (Unit) := bNil
def zo6 (zk : List Term → Bool × Int) : Cx ty := mkCx base 75 [(147, (zs5 zk))] [] [(3, [(0, .keep), (3, .keep), (4, .keep)]), (6, [(0, .keep), (3, .keep), (4, .keep), (5, .keep)]), (12, [(0, .keep), (3, .keep), (4, .keep), (5, .keep), (6, .keep), (7, .keep), (8, .keep)]), (16, [(0, .keep), (3, .keep), (4, .keep), (5, .keep), (6, .keep), (7, .keep), (9, .keep)])] [(3, 1, [(3, .keep)]), (6, 3, [(0, .keep), (3, .keep), (4, .keep)]), (12, 5, [(0, .keep), (3, .keep), (4, .keep), (5, .keep), (6, .keep), (7, .keep)]), (16, 7, [(0, .keep), (3, .keep), (4, .keep), (5, .keep), (7, .keep)])] [(12, spW z7a z6w (zr5 zk) default z5e fun x y => (((x.1.length + Int.toNat x.2.1 + Int.toNat x.2.2.1 + Int.toNat x.2.2.2.1 + Int.toNat x.2.2.2.2.2.1 + Int.toNat x.2.2.2.2.2.2.1 + 1) + y.1.Args.length + y.1.Items.length) + szTs x.1)), (16, spW z67 z61 (zr4 zk) default z4w fun x y => (((x.1.length + Int.toNat x.2.1 + Int.toNat x.2.2.1 + Int.toNat x.2.2.2.1 + Int.toNat x.2.2.2.2.2.1 + Int.toNat x.2.2.2.2.2.2.1 + 1) + y.1.Args.length + y.1.Items.length) + szTs x.1)), (6, spW z9o z96 (zs6 zk) default z60 fun x y => ((x.1.length + Int.toNat x.2.1 + Int.toNat x.2.2.1 + Int.toNat x.2.2.2.1 + 1) + szTs x.1)), (3, spW z9x z9v (zs0 zk) default z7f fun x y => ((x.1.length + Int.toNat x.2.1 + Int.toNat x.2.2.1 + 1) + szTs x.1))] []
theorem zbjq (zk : List Term → Bool × Int) : LoopOK (zo6 zk) (lp (body Tryz.f147) 2) := loopOK_W (id := 12) (V := z7a) (B := z6w) (W := zr5 zk) (z := default) (tr := z5e) (m := fun x y => (((x.1.length + Int.toNat x.2.1 + Int.toNat x.2.2.1 + Int.toNat x.2.2.2.1 + Int.toNat x.2.2.2.2.2.1 + Int.toNat x.2.2.2.2.2.2.1 + 1) + y.1.Args.length + y.1.Items.length) + szTs x.1)) (by kernel_rfl) (by kernel_rfl) fun R H K x y => by kernel_rfl
theorem zbjc (zk : List Term → Bool × Int) : LoopOK (zo6 zk) (lp (body Tryz.f147) 3) := loopOK_W (id := 16) (V := z67) (B := z61) (W := zr4 zk) (z := default) (tr := z4w) (m := fun x y => (((x.1.length + Int.toNat x.2.1 + Int.toNat x.2.2.1 + Int.toNat x.2.2.2.1 + Int.toNat x.2.2.2.2.2.1 + Int.toNat x.2.2.2.2.2.2.1 + 1) + y.1.Args.length + y.1.Items.length) + szTs x.1)) (by kernel_rfl) (by kernel_rfl) fun R H K x y => by kernel_rfl
theorem zbkr (zk : List Term → Bool × Int) : LoopOK (zo6 zk) (lp (body Tryz.f147) 1) := loopOK_W (id := 6) (V := z9o) (B := z96) (W := zs6 zk) (z := default) (tr := z60) (m := fun x y => ((x.1.length + Int.toNat x.2.1 + Int.toNat x.2.2.1 + Int.toNat x.2.2.2.1 + 1) + szTs x.1)) (by kernel_rfl) (by kernel_rfl) fun R H K x y => by kernel_rfl
theorem zbla (zk : List Term → Bool × Int) : LoopOK (zo6 zk) (lp (body Tryz.f147) 0) := loopOK_W (id := 3) (V := z9x) (B := z9v) (W := zs0 zk) (z := default) (tr := z7f) (m := fun x y => ((x.1.length + Int.toNat x.2.1 + Int.toNat x.2.2.1 + 1) + szTs x.1)) (by kernel_rfl) (by kernel_rfl) fun R H K x y => by kernel_rfl
def z1m (zk : List Term → Bool × Int) (a : List Term) : Wy0 (Int) := .bn (z9y zk ((a.length + Int.toNat (0 : Int) + Int.toNat (0 : Int) + (1 : Nat)) + szTs a) a (0 : Int) (0 : Int)) fun r10 => .k r10
def zx3 (zk : List Term → Bool × Int) (a : List Term) : Bool × Int := (z1m zk a).fin default
theorem zbir (zk : List Term → Bool × Int) (zbmo : Sound Tryz.prog base 147 (zs5 zk)) : Sound Tryz.prog base 147 (zs5 (zx3 zk)) :=
  sound_W (cx' := (zo6 zk)) draws base_ok mkSame (mkSpecs ⟨(zbmo), trivial⟩) Tryz.call147 Tryz.func147 (c := body Tryz.f147) (by kernel_rfl) (loopsOK_of (l := [lp (body Tryz.f147) 0, lp (body Tryz.f147) 1, lp (body Tryz.f147) 2, lp (body Tryz.f147) 3]) (by kernel_rfl) ⟨zbla zk, zbkr zk, zbjq zk, zbjc zk, trivial⟩) (sg := ⟨[.pure], []⟩) (A := zbf5) (res := zbb0) (W := fun x => z1m zk x.1) (z := default) (fun x => by kernel_rfl) (fun _ => by kernel_rfl)
def zbl3 : Nat → (List Term → Bool × Int)
  | 0 => fun _ => (false, default)
  | n + 1 => zx3 (zbl3 n)
def zl7 (n : Nat) : List Term → Bool × Int := zbl3 n
theorem zblt (n : Nat) : zl7 (n + 1) = zx3 (zl7 n) := rfl
theorem zbhs : ∀ n, Sound Tryz.prog base 147 (zs5 (zl7 n))
  | 0 => sound_false Tryz.call147 (fun _ => rfl)
  | n + 1 => by
    have ih := zbhs n
    exact zbir _ (ih)
def zba2 : List Term → Bool × Int := zl7 1000
def z8w : Ab.Spec ty := zs5 zba2
theorem zbk3 : Sound Tryz.prog base 147 z8w := (zbhs 1000)
def zbh0 (r : Int) : ARes ty := ⟨[.pure (.lit (.int .i64 r))], []⟩
def zblq : AL base (List Term × Unit) := aCons (aPure (vSl 42)) aNil
def zy0 (F : List Term → Bool × Int) : Ab.Spec ty := mkSpec zblq fun x => ((F x.1).1, zbh0 (F x.1).2)
def zrw (zw : List Term → Bool × Int) (a : List Term) (n_ : Int) (i : Int) (k : Int) (j : Int) (x_ : Atom) : Wy (List Term × Int × Int × Int × Unit × Int × Unit) (Atom × Unit) (List Term × Int × Int × Int × Atom) := .i (decide (j < Int.ofNat x_.Args.length)) (.i (decide ((0 : Int) ≤ j) && decide (j < Int.ofNat x_.Args.length)) (.bn (zw (x_.Args.getD j.toNat default)) fun r0 => .h (a, (IntKind.i64.wrap (n_ + r0)), i, k, (), (IntKind.i64.wrap (j + (1 : Int))), ()) (x_, ())) .d) (.k (a, n_, i, k, x_))
def zwb (zw : List Term → Bool × Int) (x : List Term × Int × Int × Int × Unit × Int × Unit) (y : Atom × Unit) : Wy (List Term × Int × Int × Int × Unit × Int × Unit) (Atom × Unit) (List Term × Int × Int × Int × Atom) := zrw zw x.1 x.2.1 x.2.2.1 x.2.2.2.1 x.2.2.2.2.2.1 y.1
def zbdm (zw : List Term → Bool × Int) (n : Nat) (a : List Term) (n_ : Int) (i : Int) (k : Int) (j : Int) (x_ : Atom) : Bool × (List Term × Int × Int × Int × Atom) := iterW (zwb zw) default n (a, n_, i, k, (), j, ()) (x_, ())
def zbbr (r : List Term × Int × Int × Int × Atom) : LTree ty := .done (.exit 4) [.sl 42 r.1, .lit (.int .i64 r.2.1), .lit (.int .i64 r.2.2.1), .lit (.int .i64 r.2.2.2.1), .ptr 284 0] [.box (base.enc 48 r.2.2.2.2) false]
def zbd0 : LL ty (List Term × Int × Int × Int × Unit × Int × Unit) := llCons (lSl 42) (llCons (lInt .i64) (llCons (lInt .i64) (llCons (lInt .i64) (llCons (lPtrC 284 0) (llCons (lInt .i64) llNil)))))
def zbe4 : BL ty (Atom × Unit) := bBox (llMap (fun x => (⟨x.1, ⟨x.2.1, x.2.2.1⟩, x.2.2.2.1, x.2.2.2.2.1, x.2.2.2.2.2.1, x.2.2.2.2.2.2.1, ⟨x.2.2.2.2.2.2.2.1, x.2.2.2.2.2.2.2.2.1, x.2.2.2.2.2.2.2.2.2.1⟩⟩ : Atom)) (fun x => (x.Kind, x.Row.Table, x.Row.Seq, x.Args, x.Func, x.Items, x.Op, x.Bound.Kind, x.Bound.Int, x.Bound.Text, ())) (fun _ => rfl) (llCons (lInt .i64) (llCons (lInt .i64) (llCons (lInt .i64) (llCons (lSl 23) (llCons (lInt .i64) (llCons (lSl 52) (llCons (lInt .i64) (llCons (lInt .i64) (llCons (lInt .i64) (llCons lStr llNil))))))))))) false (bNil)
def zrf (zw : List Term → Bool × Int) (a : List Term) (n_ : Int) (i : Int) (k : Int) (j : Int) (x_ : Atom) : Wy (List Term × Int × Int × Int × Unit × Int × Unit) (Atom × Unit) (List Term × Int × Int × Int) := .i (decide (j < Int.ofNat x_.Items.length)) (.i (decide ((0 : Int) ≤ j) && decide (j < Int.ofNat x_.Items.length)) (.bn (zw (x_.Items.getD j.toNat default).Ann) fun r2 => .h (a, (IntKind.i64.wrap (IntKind.i64.wrap (n_ + (1 : Int)) + r2)), i, k, (), (IntKind.i64.wrap (j + (1 : Int))), ()) (x_, ())) .d) (.k (a, n_, i, k))
def zwf (zw : List Term → Bool × Int) (x : List Term × Int × Int × Int × Unit × Int × Unit) (y : Atom × Unit) : Wy (List Term × Int × Int × Int × Unit × Int × Unit) (Atom × Unit) (List Term × Int × Int × Int) := zrf zw x.1 x.2.1 x.2.2.1 x.2.2.2.1 x.2.2.2.2.2.1 y.1
def zbd4 (zw : List Term → Bool × Int) (n : Nat) (a : List Term) (n_ : Int) (i : Int) (k : Int) (j : Int) (x_ : Atom) : Bool × (List Term × Int × Int × Int) := iterW (zwf zw) default n (a, n_, i, k, (), j, ()) (x_, ())
def zbcl (r : List Term × Int × Int × Int) : LTree ty := .done (.exit 6) [.sl 42 r.1, .lit (.int .i64 r.2.1), .lit (.int .i64 r.2.2.1), .lit (.int .i64 r.2.2.2)] []
def zbdf : LL ty (List Term × Int × Int × Int × Unit × Int × Unit) := llCons (lSl 42) (llCons (lInt .i64) (llCons (lInt .i64) (llCons (lInt .i64) (llCons (lPtrC 284 0) (llCons (lInt .i64) llNil)))))
def zbdc : BL ty (Atom × Unit) := bBox (llMap (fun x => (⟨x.1, ⟨x.2.1, x.2.2.1⟩, x.2.2.2.1, x.2.2.2.2.1, x.2.2.2.2.2.1, x.2.2.2.2.2.2.1, ⟨x.2.2.2.2.2.2.2.1, x.2.2.2.2.2.2.2.2.1, x.2.2.2.2.2.2.2.2.2.1⟩⟩ : Atom)) (fun x => (x.Kind, x.Row.Table, x.Row.Seq, x.Args, x.Func, x.Items, x.Op, x.Bound.Kind, x.Bound.Int, x.Bound.Text, ())) (fun _ => rfl) (llCons (lInt .i64) (llCons (lInt .i64) (llCons (lInt .i64) (llCons (lSl 23) (llCons (lInt .i64) (llCons (lSl 52) (llCons (lInt .i64) (llCons (lInt .i64) (llCons (lInt .i64) (llCons lStr llNil))))))))))) false (bNil)
def zta (zw : List Term → Bool × Int) (a : List Term) (n_ : Int) (i : Int) (k : Int) : Wy (List Term × Int × Int × Int × Unit) (Unit) (List Term × Int × Int) := .i (decide ((0 : Int) ≤ i) && decide (i < Int.ofNat a.length)) (.i (decide (k < Int.ofNat (a.getD i.toNat default).Factors.length)) (.i (decide ((0 : Int) ≤ i) && decide (i < Int.ofNat a.length)) (.i (decide ((0 : Int) ≤ k) && decide (k < Int.ofNat (a.getD i.toNat default).Factors.length)) (.bn (zbdm zw (((a.length + (IntKind.i64.wrap (n_ + (1 : Int))).toNat + i.toNat + k.toNat + Int.toNat (0 : Int) + (1 : Nat)) + (Atom.mk ((a.getD i.toNat default).Factors.getD k.toNat default).Atom.Kind ((a.getD i.toNat default).Factors.getD k.toNat default).Atom.Row ((a.getD i.toNat default).Factors.getD k.toNat default).Atom.Args ((a.getD i.toNat default).Factors.getD k.toNat default).Atom.Func ((a.getD i.toNat default).Factors.getD k.toNat default).Atom.Items ((a.getD i.toNat default).Factors.getD k.toNat default).Atom.Op ((a.getD i.toNat default).Factors.getD k.toNat default).Atom.Bound).Args.length + (Atom.mk ((a.getD i.toNat default).Factors.getD k.toNat default).Atom.Kind ((a.getD i.toNat default).Factors.getD k.toNat default).Atom.Row ((a.getD i.toNat default).Factors.getD k.toNat default).Atom.Args ((a.getD i.toNat default).Factors.getD k.toNat default).Atom.Func ((a.getD i.toNat default).Factors.getD k.toNat default).Atom.Items ((a.getD i.toNat default).Factors.getD k.toNat default).Atom.Op ((a.getD i.toNat default).Factors.getD k.toNat default).Atom.Bound).Items.length) + szTs a) a (IntKind.i64.wrap (n_ + (1 : Int))) i k (0 : Int) (Atom.mk ((a.getD i.toNat default).Factors.getD k.toNat default).Atom.Kind ((a.getD i.toNat default).Factors.getD k.toNat default).Atom.Row ((a.getD i.toNat default).Factors.getD k.toNat default).Atom.Args ((a.getD i.toNat default).Factors.getD k.toNat default).Atom.Func ((a.getD i.toNat default).Factors.getD k.toNat default).Atom.Items ((a.getD i.toNat default).Factors.getD k.toNat default).Atom.Op ((a.getD i.toNat default).Factors.getD k.toNat default).Atom.Bound)) fun r5 => .bn (zbd4 zw (((r5.fst.length + r5.snd.fst.toNat + r5.snd.snd.fst.toNat + r5.snd.snd.snd.fst.toNat + Int.toNat (0 : Int) + (1 : Nat)) + (Atom.mk r5.snd.snd.snd.snd.Kind r5.snd.snd.snd.snd.Row r5.snd.snd.snd.snd.Args r5.snd.snd.snd.snd.Func r5.snd.snd.snd.snd.Items r5.snd.snd.snd.snd.Op r5.snd.snd.snd.snd.Bound).Args.length + (Atom.mk r5.snd.snd.snd.snd.Kind r5.snd.snd.snd.snd.Row r5.snd.snd.snd.snd.Args r5.snd.snd.snd.snd.Func r5.snd.snd.snd.snd.Items r5.snd.snd.snd.snd.Op r5.snd.snd.snd.snd.Bound).Items.length) + szTs r5.fst) r5.fst r5.snd.fst r5.snd.snd.fst r5.snd.snd.snd.fst (0 : Int) (Atom.mk r5.snd.snd.snd.snd.Kind r5.snd.snd.snd.snd.Row r5.snd.snd.snd.snd.Args r5.snd.snd.snd.snd.Func r5.snd.snd.snd.snd.Items r5.snd.snd.snd.snd.Op r5.snd.snd.snd.snd.Bound)) fun r4 => .h ((r4.fst), (r4.snd.fst), (r4.snd.snd.fst), (IntKind.i64.wrap (r4.snd.snd.snd + (1 : Int))), ()) ()) .d) .d) (.k (a, n_, i))) .d
def zx0 (zw : List Term → Bool × Int) (x : List Term × Int × Int × Int × Unit) (y : Unit) : Wy (List Term × Int × Int × Int × Unit) (Unit) (List Term × Int × Int) := zta zw x.1 x.2.1 x.2.2.1 x.2.2.2.1
def zbgg (zw : List Term → Bool × Int) (n : Nat) (a : List Term) (n_ : Int) (i : Int) (k : Int) : Bool × (List Term × Int × Int) := iterW (zx0 zw) default n (a, n_, i, k, ()) ()
def zbdr (r : List Term × Int × Int) : LTree ty := .done (.exit 2) [.sl 42 r.1, .lit (.int .i64 r.2.1), .lit (.int .i64 r.2.2)] []
def zbfw : LL ty (List Term × Int × Int × Int × Unit) := llCons (lSl 42) (llCons (lInt .i64) (llCons (lInt .i64) (llCons (lInt .i64) llNil)))
def zbf7 : BL ty (Unit) := bNil
def zs1 (zw : List Term → Bool × Int) (a : List Term) (n_ : Int) (i : Int) : Wy (List Term × Int × Int × Unit) (Unit) (Int) := .i (decide (i < Int.ofNat a.length)) (.bn (zbgg zw ((a.length + (IntKind.i64.wrap (n_ + (1 : Int))).toNat + i.toNat + Int.toNat (0 : Int) + (1 : Nat)) + szTs a) a (IntKind.i64.wrap (n_ + (1 : Int))) i (0 : Int)) fun r8 => .h ((r8.fst), (r8.snd.fst), (IntKind.i64.wrap (r8.snd.snd + (1 : Int))), ()) ()) (.k n_)
def zyd (zw : List Term → Bool × Int) (x : List Term × Int × Int × Unit) (y : Unit) : Wy (List Term × Int × Int × Unit) (Unit) (Int) := zs1 zw x.1 x.2.1 x.2.2.1
def zbgh (zw : List Term → Bool × Int) (n : Nat) (a : List Term) (n_ : Int) (i : Int) : Bool × Int := iterW (zyd zw) default n (a, n_, i, ()) ()
def zbeb (r : Int) : LTree ty := .done (.exit 0) [.lit (.int .i64 r)] []
def zbfz : LL ty (List Term × Int × Int × Unit) := llCons (lSl 42) (llCons (lInt .i64) (llCons (lInt .i64) llNil))
def zbf2 : BL ty (Unit) := bNil
def zsy (zw : List Term → Bool × Int) : Cx ty := mkCx base 71 [(48, (zy0 zw))] [] [(3, [(0, .keep), (3, .keep), (4, .keep)]), (7, [(0, .keep), (3, .keep), (4, .keep), (5, .keep)]), (12, [(0, .keep), (3, .keep), (4, .keep), (5, .keep), (6, .keep), (7, .keep)]), (16, [(0, .keep), (3, .keep), (4, .keep), (5, .keep), (6, .keep), (8, .keep)])] [(3, 1, [(3, .keep)]), (7, 3, [(0, .keep), (3, .keep), (4, .keep)]), (12, 5, [(0, .keep), (3, .keep), (4, .keep), (5, .keep), (6, .keep)]), (16, 7, [(0, .keep), (3, .keep), (4, .keep), (5, .keep)])] [(12, spW zbd0 zbe4 (zwb zw) default zbbr fun x y => (((x.1.length + Int.toNat x.2.1 + Int.toNat x.2.2.1 + Int.toNat x.2.2.2.1 + Int.toNat x.2.2.2.2.2.1 + 1) + y.1.Args.length + y.1.Items.length) + szTs x.1)), (16, spW zbdf zbdc (zwf zw) default zbcl fun x y => (((x.1.length + Int.toNat x.2.1 + Int.toNat x.2.2.1 + Int.toNat x.2.2.2.1 + Int.toNat x.2.2.2.2.2.1 + 1) + y.1.Args.length + y.1.Items.length) + szTs x.1)), (7, spW zbfw zbf7 (zx0 zw) default zbdr fun x y => ((x.1.length + Int.toNat x.2.1 + Int.toNat x.2.2.1 + Int.toNat x.2.2.2.1 + 1) + szTs x.1)), (3, spW zbfz zbf2 (zyd zw) default zbeb fun x y => ((x.1.length + Int.toNat x.2.1 + Int.toNat x.2.2.1 + 1) + szTs x.1))] []
theorem zbmw (zw : List Term → Bool × Int) : LoopOK (zsy zw) (lp (body Tryz.f48) 2) := loopOK_W (id := 12) (V := zbd0) (B := zbe4) (W := zwb zw) (z := default) (tr := zbbr) (m := fun x y => (((x.1.length + Int.toNat x.2.1 + Int.toNat x.2.2.1 + Int.toNat x.2.2.2.1 + Int.toNat x.2.2.2.2.2.1 + 1) + y.1.Args.length + y.1.Items.length) + szTs x.1)) (by kernel_rfl) (by kernel_rfl) fun R H K x y => by kernel_rfl
theorem zbmn (zw : List Term → Bool × Int) : LoopOK (zsy zw) (lp (body Tryz.f48) 3) := loopOK_W (id := 16) (V := zbdf) (B := zbdc) (W := zwf zw) (z := default) (tr := zbcl) (m := fun x y => (((x.1.length + Int.toNat x.2.1 + Int.toNat x.2.2.1 + Int.toNat x.2.2.2.1 + Int.toNat x.2.2.2.2.2.1 + 1) + y.1.Args.length + y.1.Items.length) + szTs x.1)) (by kernel_rfl) (by kernel_rfl) fun R H K x y => by kernel_rfl
theorem zbnx (zw : List Term → Bool × Int) : LoopOK (zsy zw) (lp (body Tryz.f48) 1) := loopOK_W (id := 7) (V := zbfw) (B := zbf7) (W := zx0 zw) (z := default) (tr := zbdr) (m := fun x y => ((x.1.length + Int.toNat x.2.1 + Int.toNat x.2.2.1 + Int.toNat x.2.2.2.1 + 1) + szTs x.1)) (by kernel_rfl) (by kernel_rfl) fun R H K x y => by kernel_rfl
theorem zbnl (zw : List Term → Bool × Int) : LoopOK (zsy zw) (lp (body Tryz.f48) 0) := loopOK_W (id := 3) (V := zbfz) (B := zbf2) (W := zyd zw) (z := default) (tr := zbeb) (m := fun x y => ((x.1.length + Int.toNat x.2.1 + Int.toNat x.2.2.1 + 1) + szTs x.1)) (by kernel_rfl) (by kernel_rfl) fun R H K x y => by kernel_rfl
def z8p (zw : List Term → Bool × Int) (a : List Term) : Wy0 (Int) := .bn (zbgh zw ((a.length + Int.toNat (0 : Int) + Int.toNat (0 : Int) + (1 : Nat)) + szTs a) a (0 : Int) (0 : Int)) fun r10 => .k r10
def z6f (zw : List Term → Bool × Int) (a : List Term) : Bool × Int := (z8p zw a).fin default
theorem zblf (zw : List Term → Bool × Int) (zbo3 : Sound Tryz.prog base 48 (zy0 zw)) : Sound Tryz.prog base 48 (zy0 (z6f zw)) :=
  sound_W (cx' := (zsy zw)) draws base_ok mkSame (mkSpecs ⟨(zbo3), trivial⟩) Tryz.call48 Tryz.func48 (c := body Tryz.f48) (by kernel_rfl) (loopsOK_of (l := [lp (body Tryz.f48) 0, lp (body Tryz.f48) 1, lp (body Tryz.f48) 2, lp (body Tryz.f48) 3]) (by kernel_rfl) ⟨zbnl zw, zbnx zw, zbmw zw, zbmn zw, trivial⟩) (sg := ⟨[.pure], []⟩) (A := zblq) (res := zbh0) (W := fun x => z8p zw x.1) (z := default) (fun x => by kernel_rfl) (fun _ => by kernel_rfl)
def zbpi : Nat → (List Term → Bool × Int)
  | 0 => fun _ => (false, default)
  | n + 1 => z6f (zbpi n)
def zuo (n : Nat) : List Term → Bool × Int := zbpi n
theorem zboj (n : Nat) : zuo (n + 1) = z6f (zuo n) := rfl
theorem zbm4 : ∀ n, Sound Tryz.prog base 48 (zy0 (zuo n))
  | 0 => sound_false Tryz.call48 (fun _ => rfl)
  | n + 1 => by
    have ih := zbm4 n
    exact zblf _ (ih)
def zbi8 : List Term → Bool × Int := zuo 1000
def zbf4 : Ab.Spec ty := zy0 zbi8
theorem zbnt : Sound Tryz.prog base 48 zbf4 := (zbm4 1000)
def zw4 (a : List Term) (i : Int) (k : Int) : Wy (List Term × Int × Int × Unit) (Unit) (Bool ⊕ (List Term × Int)) := .i (decide ((0 : Int) ≤ i) && decide (i < Int.ofNat a.length)) (.i (decide (k < Int.ofNat (a.getD i.toNat default).Factors.length)) (.i (decide ((0 : Int) ≤ i) && decide (i < Int.ofNat a.length)) (.i (decide ((0 : Int) ≤ k) && decide (k < Int.ofNat (a.getD i.toNat default).Factors.length)) (.i (decide (((a.getD i.toNat default).Factors.getD k.toNat default).Exp > (64 : Int))) (.k (.inl false)) (.i (decide ((0 : Int) ≤ i) && decide (i < Int.ofNat a.length)) (.i (decide ((0 : Int) ≤ k) && decide (k < Int.ofNat (a.getD i.toNat default).Factors.length)) (.i (decide (Int.ofNat ((a.getD i.toNat default).Factors.getD k.toNat default).Atom.Items.length > (1024 : Int))) (.k (.inl false)) (.h (a, i, (IntKind.i64.wrap (k + (1 : Int))), ()) ())) .d) .d)) .d) .d) (.k (.inr (a, i)))) .d
def z2y (x : List Term × Int × Int × Unit) (y : Unit) : Wy (List Term × Int × Int × Unit) (Unit) (Bool ⊕ (List Term × Int)) := zw4 x.1 x.2.1 x.2.2.1
def zbki (n : Nat) (a : List Term) (i : Int) (k : Int) : Bool × (Bool ⊕ (List Term × Int)) := iterW (z2y) (.inl default) n (a, i, k, ()) ()
def zbhx (r : Bool ⊕ (List Term × Int)) : LTree ty := .ite (isL r) (.done .ret [.lit (.bool (getL r))] []) (.done (.exit 2) [.sl 42 ((getR r).1), .lit (.int .i64 ((getR r).2))] [])
def zbkc : LL ty (List Term × Int × Int × Unit) := llCons (lSl 42) (llCons (lInt .i64) (llCons (lInt .i64) llNil))
def zbj5 : BL ty (Unit) := bNil
def zww (a : List Term) (i : Int) : Wy (List Term × Int × Unit) (Unit) (Bool ⊕ Unit) := .i (decide (i < Int.ofNat a.length)) (.i (decide ((0 : Int) ≤ i) && decide (i < Int.ofNat a.length)) (.i (decide (Int.ofNat (a.getD i.toNat default).Factors.length > (64 : Int))) (.k (.inl false)) (.bn (zbki ((a.length + i.toNat + Int.toNat (0 : Int) + (1 : Nat)) + szTs a) a i (0 : Int)) fun r0 => .i (isL r0) (.k (.inl (getL r0))) (.h (((getR r0).fst), (IntKind.i64.wrap ((getR r0).snd + (1 : Int))), ()) ()))) .d) (.k (.inr ()))
def z2w (x : List Term × Int × Unit) (y : Unit) : Wy (List Term × Int × Unit) (Unit) (Bool ⊕ Unit) := zww x.1 x.2.1
def zbj7 (n : Nat) (a : List Term) (i : Int) : Bool × (Bool ⊕ Unit) := iterW (z2w) (.inl default) n (a, i, ()) ()
def zbh3 (r : Bool ⊕ Unit) : LTree ty := .ite (isL r) (.done .ret [.lit (.bool (getL r))] []) (.done (.exit 0) [] [])
def zbj1 : LL ty (List Term × Int × Unit) := llCons (lSl 42) (llCons (lInt .i64) llNil)
def zbkg : BL ty (Unit) := bNil
def zbbb : Cx ty := mkCx base 65 [(48, zbf4), (147, z8w)] [] [(4, [(0, .keep), (3, .keep)]), (9, [(0, .keep), (3, .keep), (4, .keep)])] [(4, 1, []), (4, 0, [(2, .keep)]), (9, 3, [(0, .keep), (3, .keep)]), (9, 0, [(2, .keep)])] [(9, spW zbkc zbj5 (z2y) (.inl default) zbhx fun x y => ((x.1.length + Int.toNat x.2.1 + Int.toNat x.2.2.1 + 1) + szTs x.1)), (4, spW zbj1 zbkg (z2w) (.inl default) zbh3 fun x y => ((x.1.length + Int.toNat x.2.1 + 1) + szTs x.1))] []
theorem zbo6 : LoopOK zbbb (lp (body Tryz.f102) 1) := loopOK_W (id := 9) (V := zbkc) (B := zbj5) (W := z2y) (z := .inl default) (tr := zbhx) (m := fun x y => ((x.1.length + Int.toNat x.2.1 + Int.toNat x.2.2.1 + 1) + szTs x.1)) (by kernel_rfl) (by kernel_rfl) fun R H K x y => by kernel_rfl
theorem zbo8 : LoopOK zbbb (lp (body Tryz.f102) 0) := loopOK_W (id := 4) (V := zbj1) (B := zbkg) (W := z2w) (z := .inl default) (tr := zbh3) (m := fun x y => ((x.1.length + Int.toNat x.2.1 + 1) + szTs x.1)) (by kernel_rfl) (by kernel_rfl) fun R H K x y => by kernel_rfl
def zbeh (a : List Term) : Wy0 (Bool) := .i (decide (Int.ofNat a.length > (512 : Int))) (.k false) (.bn (zba2 a) fun r4 => .i (decide (r4 > (8 : Int))) (.k false) (.bn (zbi8 a) fun r3 => .i (decide (r3 > (4096 : Int))) (.k false) (.bn (zbj7 ((a.length + Int.toNat (0 : Int) + (1 : Nat)) + szTs a) a (0 : Int)) fun r2 => .i (isL r2) (.k (getL r2)) (.k true))))
def zz4 (a : List Term) : Bool × Bool := (zbeh a).fin default
def zbih (r : Bool) : ARes ty := ⟨[.pure (.lit (.bool r))], []⟩
def zbmg : AL base (List Term × Unit) := aCons (aPure (vSl 42)) aNil
def z4q : Ab.Spec ty := mkSpec zbmg fun x => ((zz4 x.1).1, zbih (zz4 x.1).2)
theorem zbew : Sound Tryz.prog base 102 z4q :=
  sound_W (cx' := zbbb) draws base_ok mkSame (mkSpecs ⟨(zbnt), (zbk3), trivial⟩) Tryz.call102 Tryz.func102 (c := body Tryz.f102) (by kernel_rfl) (loopsOK_of (l := [lp (body Tryz.f102) 0, lp (body Tryz.f102) 1]) (by kernel_rfl) ⟨zbo8, zbo6, trivial⟩) (sg := ⟨[.pure], []⟩) (A := zbmg) (res := zbih) (W := fun x => zbeh x.1) (z := default) (fun x => by kernel_rfl) (fun _ => by kernel_rfl)
def zp8 (z7 : Atom → Bool × Bool) (a : List Term) (i : Int) (k : Int) (t : Term) : Wy (List Term × Int × Unit × Int × Unit) (Term × Unit) (Bool ⊕ (List Term × Int)) := .i (decide (k < Int.ofNat t.Factors.length)) (.i (decide ((0 : Int) ≤ k) && decide (k < Int.ofNat t.Factors.length)) (.i (decide ((t.Factors.getD k.toNat default).Exp < (1 : Int))) (.k (.inl false)) (.i (decide ((t.Factors.getD k.toNat default).Exp > (1 : Int))) (.i (decide ((t.Factors.getD k.toNat default).Atom.Kind ≥ (3 : Int))) (.k (.inl false)) (.bn (z7 (Atom.mk (t.Factors.getD k.toNat default).Atom.Kind (t.Factors.getD k.toNat default).Atom.Row (t.Factors.getD k.toNat default).Atom.Args (t.Factors.getD k.toNat default).Atom.Func (t.Factors.getD k.toNat default).Atom.Items (t.Factors.getD k.toNat default).Atom.Op (t.Factors.getD k.toNat default).Atom.Bound)) fun r1 => .i (!r1) (.k (.inl false)) (.i (decide (k > (0 : Int))) (.i (decide ((0 : Int) ≤ IntKind.i64.wrap (k - (1 : Int))) && decide (IntKind.i64.wrap (k - (1 : Int)) < Int.ofNat t.Factors.length)) (.bn (zua (Atom.mk (t.Factors.getD (IntKind.i64.wrap (k - (1 : Int))).toNat default).Atom.Kind (t.Factors.getD (IntKind.i64.wrap (k - (1 : Int))).toNat default).Atom.Row (t.Factors.getD (IntKind.i64.wrap (k - (1 : Int))).toNat default).Atom.Args (t.Factors.getD (IntKind.i64.wrap (k - (1 : Int))).toNat default).Atom.Func (t.Factors.getD (IntKind.i64.wrap (k - (1 : Int))).toNat default).Atom.Items (t.Factors.getD (IntKind.i64.wrap (k - (1 : Int))).toNat default).Atom.Op (t.Factors.getD (IntKind.i64.wrap (k - (1 : Int))).toNat default).Atom.Bound) (Atom.mk (t.Factors.getD k.toNat default).Atom.Kind (t.Factors.getD k.toNat default).Atom.Row (t.Factors.getD k.toNat default).Atom.Args (t.Factors.getD k.toNat default).Atom.Func (t.Factors.getD k.toNat default).Atom.Items (t.Factors.getD k.toNat default).Atom.Op (t.Factors.getD k.toNat default).Atom.Bound)) fun r0 => .i (decide (r0 ≥ (0 : Int))) (.k (.inl false)) (.h (a, i, (), (IntKind.i64.wrap (k + (1 : Int))), ()) (t, ()))) .d) (.h (a, i, (), (IntKind.i64.wrap (k + (1 : Int))), ()) (t, ()))))) (.bn (z7 (Atom.mk (t.Factors.getD k.toNat default).Atom.Kind (t.Factors.getD k.toNat default).Atom.Row (t.Factors.getD k.toNat default).Atom.Args (t.Factors.getD k.toNat default).Atom.Func (t.Factors.getD k.toNat default).Atom.Items (t.Factors.getD k.toNat default).Atom.Op (t.Factors.getD k.toNat default).Atom.Bound)) fun r3 => .i (!r3) (.k (.inl false)) (.i (decide (k > (0 : Int))) (.i (decide ((0 : Int) ≤ IntKind.i64.wrap (k - (1 : Int))) && decide (IntKind.i64.wrap (k - (1 : Int)) < Int.ofNat t.Factors.length)) (.bn (zua (Atom.mk (t.Factors.getD (IntKind.i64.wrap (k - (1 : Int))).toNat default).Atom.Kind (t.Factors.getD (IntKind.i64.wrap (k - (1 : Int))).toNat default).Atom.Row (t.Factors.getD (IntKind.i64.wrap (k - (1 : Int))).toNat default).Atom.Args (t.Factors.getD (IntKind.i64.wrap (k - (1 : Int))).toNat default).Atom.Func (t.Factors.getD (IntKind.i64.wrap (k - (1 : Int))).toNat default).Atom.Items (t.Factors.getD (IntKind.i64.wrap (k - (1 : Int))).toNat default).Atom.Op (t.Factors.getD (IntKind.i64.wrap (k - (1 : Int))).toNat default).Atom.Bound) (Atom.mk (t.Factors.getD k.toNat default).Atom.Kind (t.Factors.getD k.toNat default).Atom.Row (t.Factors.getD k.toNat default).Atom.Args (t.Factors.getD k.toNat default).Atom.Func (t.Factors.getD k.toNat default).Atom.Items (t.Factors.getD k.toNat default).Atom.Op (t.Factors.getD k.toNat default).Atom.Bound)) fun r2 => .i (decide (r2 ≥ (0 : Int))) (.k (.inl false)) (.h (a, i, (), (IntKind.i64.wrap (k + (1 : Int))), ()) (t, ()))) .d) (.h (a, i, (), (IntKind.i64.wrap (k + (1 : Int))), ()) (t, ())))))) .d) (.k (.inr (a, i)))
def zt5 (z7 : Atom → Bool × Bool) (x : List Term × Int × Unit × Int × Unit) (y : Term × Unit) : Wy (List Term × Int × Unit × Int × Unit) (Term × Unit) (Bool ⊕ (List Term × Int)) := zp8 z7 x.1 x.2.1 x.2.2.2.1 y.1
def z1c (z7 : Atom → Bool × Bool) (n : Nat) (a : List Term) (i : Int) (k : Int) (t : Term) : Bool × (Bool ⊕ (List Term × Int)) := iterW (zt5 z7) (.inl default) n (a, i, (), k, ()) (t, ())
def z8z (r : Bool ⊕ (List Term × Int)) : LTree ty := .ite (isL r) (.done .ret [.lit (.bool (getL r))] []) (.done (.exit 2) [.sl 42 ((getR r).1), .lit (.int .i64 ((getR r).2))] [])
def zbcn : LL ty (List Term × Int × Unit × Int × Unit) := llCons (lSl 42) (llCons (lInt .i64) (llCons (lPtrC 372 0) (llCons (lInt .i64) llNil)))
def zbce : BL ty (Term × Unit) := bBox (llMap (fun x => (⟨x.1, x.2.1⟩ : Term)) (fun x => (x.Coeff, x.Factors, ())) (fun _ => rfl) (llCons (lInt .i64) (llCons (lSl 50) llNil))) false (bNil)
def zrp (z7 : Atom → Bool × Bool) (a : List Term) (i : Int) : Wy (List Term × Int × Unit) (Unit) (Bool ⊕ Unit) := .i (decide (i < Int.ofNat a.length)) (.i (decide ((0 : Int) ≤ i) && decide (i < Int.ofNat a.length)) (.i (decide ((a.getD i.toNat default).Coeff < (1 : Int))) (.k (.inl false)) (.i (decide ((a.getD i.toNat default).Coeff > (1152921504606846976 : Int))) (.k (.inl false)) (.i (decide (i > (0 : Int))) (.i (decide ((0 : Int) ≤ IntKind.i64.wrap (i - (1 : Int))) && decide (IntKind.i64.wrap (i - (1 : Int)) < Int.ofNat a.length)) (.bn (zvx (a.getD (IntKind.i64.wrap (i - (1 : Int))).toNat default).Factors (a.getD i.toNat default).Factors) fun r9 => .i (decide (r9 ≥ (0 : Int))) (.k (.inl false)) (.bn (z1c z7 (((a.length + i.toNat + Int.toNat (0 : Int) + (1 : Nat)) + (a.getD i.toNat default).Factors.length) + szTs a) a i (0 : Int) (a.getD i.toNat default)) fun r8 => .i (isL r8) (.k (.inl (getL r8))) (.h (((getR r8).fst), (IntKind.i64.wrap ((getR r8).snd + (1 : Int))), ()) ()))) .d) (.bn (z1c z7 (((a.length + i.toNat + Int.toNat (0 : Int) + (1 : Nat)) + (a.getD i.toNat default).Factors.length) + szTs a) a i (0 : Int) (a.getD i.toNat default)) fun r10 => .i (isL r10) (.k (.inl (getL r10))) (.h (((getR r10).fst), (IntKind.i64.wrap ((getR r10).snd + (1 : Int))), ()) ()))))) .d) (.k (.inr ()))
def zv5 (z7 : Atom → Bool × Bool) (x : List Term × Int × Unit) (y : Unit) : Wy (List Term × Int × Unit) (Unit) (Bool ⊕ Unit) := zrp z7 x.1 x.2.1
def zbec (z7 : Atom → Bool × Bool) (n : Nat) (a : List Term) (i : Int) : Bool × (Bool ⊕ Unit) := iterW (zv5 z7) (.inl default) n (a, i, ()) ()
def zbbt (r : Bool ⊕ Unit) : LTree ty := .ite (isL r) (.done .ret [.lit (.bool (getL r))] []) (.done (.exit 0) [] [])
def zbev : LL ty (List Term × Int × Unit) := llCons (lSl 42) (llCons (lInt .i64) llNil)
def zbe6 : BL ty (Unit) := bNil
def z26 (z7 : Atom → Bool × Bool) : Cx ty := mkCx base 93 [(89, zx7), (102, z4q), (103, (zp2 z7)), (104, z1y)] [] [(4, [(0, .keep), (3, .keep)]), (10, [(0, .keep), (3, .keep), (4, .keep), (5, .keep)])] [(4, 1, []), (4, 0, [(2, .keep)]), (10, 3, [(0, .keep), (3, .keep)]), (10, 0, [(2, .keep)])] [(10, spW zbcn zbce (zt5 z7) (.inl default) z8z fun x y => (((x.1.length + Int.toNat x.2.1 + Int.toNat x.2.2.2.1 + 1) + y.1.Factors.length) + szTs x.1)), (4, spW zbev zbe6 (zv5 z7) (.inl default) zbbt fun x y => ((x.1.length + Int.toNat x.2.1 + 1) + szTs x.1))] []
theorem zblz (z7 : Atom → Bool × Bool) : LoopOK (z26 z7) (lp (body Tryz.f46) 1) := loopOK_W (id := 10) (V := zbcn) (B := zbce) (W := zt5 z7) (z := .inl default) (tr := z8z) (m := fun x y => (((x.1.length + Int.toNat x.2.1 + Int.toNat x.2.2.2.1 + 1) + y.1.Factors.length) + szTs x.1)) (by kernel_rfl) (by kernel_rfl) fun R H K x y => by kernel_rfl
theorem zbmm (z7 : Atom → Bool × Bool) : LoopOK (z26 z7) (lp (body Tryz.f46) 0) := loopOK_W (id := 4) (V := zbev) (B := zbe6) (W := zv5 z7) (z := .inl default) (tr := zbbt) (m := fun x y => ((x.1.length + Int.toNat x.2.1 + 1) + szTs x.1)) (by kernel_rfl) (by kernel_rfl) fun R H K x y => by kernel_rfl
def z48 (z7 : Atom → Bool × Bool) (a : List Term) : Wy0 (Bool) := .bn (zz4 a) fun r15 => .i (!r15) (.k false) (.bn (zbec z7 ((a.length + Int.toNat (0 : Int) + (1 : Nat)) + szTs a) a (0 : Int)) fun r14 => .i (isL r14) (.k (getL r14)) (.k true))
def zw8 (z7 : Atom → Bool × Bool) (a : List Term) : Bool × Bool := (z48 z7 a).fin default
theorem zbk6 (z7 : Atom → Bool × Bool) (zbkx : Sound Tryz.prog base 103 (zp2 z7)) : Sound Tryz.prog base 46 (zxf (zw8 z7)) :=
  sound_W (cx' := (z26 z7)) draws base_ok mkSame (mkSpecs ⟨(zbbe), (zbew), (zbkx), (zbfs), trivial⟩) Tryz.call46 Tryz.func46 (c := body Tryz.f46) (by kernel_rfl) (loopsOK_of (l := [lp (body Tryz.f46) 0, lp (body Tryz.f46) 1]) (by kernel_rfl) ⟨zbmm z7, zblz z7, trivial⟩) (sg := ⟨[.pure], []⟩) (A := zbka) (res := zbgk) (W := fun x => z48 z7 x.1) (z := default) (fun x => by kernel_rfl) (fun _ => by kernel_rfl)
def zbn7 : Cx ty := mkCx base 42 [] [] [] [] [] []
def z7x (a : List Term) : Wy0 (Bool) := .i (Int.ofNat a.length == (1 : Int)) (.i (decide ((0 : Int) ≤ (0 : Int)) && decide ((0 : Int) < Int.ofNat a.length)) (.i ((a.getD (Int.toNat (0 : Int)) default).Coeff == (1 : Int)) (.i (decide ((0 : Int) ≤ (0 : Int)) && decide ((0 : Int) < Int.ofNat a.length)) (.i (Int.ofNat (a.getD (Int.toNat (0 : Int)) default).Factors.length == (1 : Int)) (.i (decide ((0 : Int) ≤ (0 : Int)) && decide ((0 : Int) < Int.ofNat a.length)) (.i (decide ((0 : Int) ≤ (0 : Int)) && decide ((0 : Int) < Int.ofNat (a.getD (Int.toNat (0 : Int)) default).Factors.length)) (.i (decide (((a.getD (Int.toNat (0 : Int)) default).Factors.getD (Int.toNat (0 : Int)) default).Atom.Kind ≥ (2 : Int))) (.i (decide ((0 : Int) ≤ (0 : Int)) && decide ((0 : Int) < Int.ofNat a.length)) (.i (decide ((0 : Int) ≤ (0 : Int)) && decide ((0 : Int) < Int.ofNat (a.getD (Int.toNat (0 : Int)) default).Factors.length)) (.k (((a.getD (Int.toNat (0 : Int)) default).Factors.getD (Int.toNat (0 : Int)) default).Exp == (1 : Int))) .d) .d) (.k false)) .d) .d) (.k false)) .d) (.k false)) .d) (.k false)
def zuf (a : List Term) : Bool × Bool := (z7x a).fin default
def zbef (r : Bool) : ARes ty := ⟨[.pure (.lit (.bool r))], []⟩
def zbhr : AL base (List Term × Unit) := aCons (aPure (vSl 42)) aNil
def zbbw : Ab.Spec ty := mkSpec zbhr fun x => ((zuf x.1).1, zbef (zuf x.1).2)
theorem zbly : Sound Tryz.prog base 66 zbbw :=
  sound_W (cx' := zbn7) draws base_ok mkSame (mkSpecs trivial) Tryz.call66 Tryz.func66 (c := body Tryz.f66) (by kernel_rfl) (loopsOK_of (l := []) (by kernel_rfl) trivial) (sg := ⟨[.pure], []⟩) (A := zbhr) (res := zbef) (W := fun x => z7x x.1) (z := default) (fun x => by kernel_rfl) (fun _ => by kernel_rfl)
def zp4 (a : List Term) (i : Int) : Wy (List Term × Int × Unit) (Unit) (Bool ⊕ Unit) := .i (decide (i < Int.ofNat a.length)) (.i (decide ((0 : Int) ≤ i) && decide (i < Int.ofNat a.length)) (.i (Int.ofNat (a.getD i.toNat default).Factors.length == (0 : Int)) (.k (.inl true)) (.h (a, (IntKind.i64.wrap (i + (1 : Int))), ()) ())) .d) (.k (.inr ()))
def zt8 (x : List Term × Int × Unit) (y : Unit) : Wy (List Term × Int × Unit) (Unit) (Bool ⊕ Unit) := zp4 x.1 x.2.1
def zbb9 (n : Nat) (a : List Term) (i : Int) : Bool × (Bool ⊕ Unit) := iterW (zt8) (.inl default) n (a, i, ()) ()
def zbai (r : Bool ⊕ Unit) : LTree ty := .ite (isL r) (.done .ret [.lit (.bool (getL r))] []) (.done (.exit 0) [] [])
def zbcp : LL ty (List Term × Int × Unit) := llCons (lSl 42) (llCons (lInt .i64) llNil)
def zbcs : BL ty (Unit) := bNil
def zbb6 : Cx ty := mkCx base 17 [] [] [(2, [(0, .keep), (3, .keep)])] [(2, 1, []), (2, 0, [(2, .keep)])] [(2, spW zbcp zbcs (zt8) (.inl default) zbai fun x y => (x.1.length + Int.toNat x.2.1 + 1))] []
theorem zblh : LoopOK zbb6 (lp (body Tryz.f67) 0) := loopOK_W (id := 2) (V := zbcp) (B := zbcs) (W := zt8) (z := .inl default) (tr := zbai) (m := fun x y => (x.1.length + Int.toNat x.2.1 + 1)) (by kernel_rfl) (by kernel_rfl) fun R H K x y => by kernel_rfl
def z23 (a : List Term) : Wy0 (Bool) := .bn (zbb9 (a.length + Int.toNat (0 : Int) + (1 : Nat)) a (0 : Int)) fun r0 => .i (isL r0) (.k (getL r0)) (.k false)
def zny (a : List Term) : Bool × Bool := (z23 a).fin default
def zbaa (r : Bool) : ARes ty := ⟨[.pure (.lit (.bool r))], []⟩
def zbel : AL base (List Term × Unit) := aCons (aPure (vSl 42)) aNil
def z6t : Ab.Spec ty := mkSpec zbel fun x => ((zny x.1).1, zbaa (zny x.1).2)
theorem zbi4 : Sound Tryz.prog base 67 z6t :=
  sound_W (cx' := zbb6) draws base_ok mkSame (mkSpecs trivial) Tryz.call67 Tryz.func67 (c := body Tryz.f67) (by kernel_rfl) (loopsOK_of (l := [lp (body Tryz.f67) 0]) (by kernel_rfl) ⟨zblh, trivial⟩) (sg := ⟨[.pure], []⟩) (A := zbel) (res := zbaa) (W := fun x => z23 x.1) (z := default) (fun x => by kernel_rfl) (fun _ => by kernel_rfl)
def zbpd : Cx ty := mkCx base 36 [] [] [] [] [] []
def zbax (v : Value) : Wy0 (Bool) := .i (v.Kind == (0 : Int)) (.k (v.Text.toList == (ByteArray.mk #[]).toList)) (.i (v.Kind == (1 : Int)) (.i (v.Int == (0 : Int)) (.k (decide (Int.ofNat v.Text.size ≤ (255 : Int)))) (.k false)) (.i (v.Kind == (2 : Int)) (.i (v.Text.toList == (ByteArray.mk #[]).toList) (.i (v.Int == (0 : Int)) (.k true) (.k (v.Int == (1 : Int)))) (.k false)) (.k false)))
def zxg (v : Value) : Bool × Bool := (zbax v).fin default
def zbgl (r : Bool) : ARes ty := ⟨[.pure (.lit (.bool r))], []⟩
def zbjt : AL base (Value × Unit) := aCons (aPure (vAgg 46)) aNil
def zbdj : Ab.Spec ty := mkSpec zbjt fun x => ((zxg x.1).1, zbgl (zxg x.1).2)
theorem zbmp : Sound Tryz.prog base 137 zbdj :=
  sound_W (cx' := zbpd) draws base_ok mkSame (mkSpecs trivial) Tryz.call137 Tryz.func137 (c := body Tryz.f137) (by kernel_rfl) (loopsOK_of (l := []) (by kernel_rfl) trivial) (sg := ⟨[.pure], []⟩) (A := zbjt) (res := zbgl) (W := fun x => zbax x.1) (z := default) (fun x => by kernel_rfl) (fun _ => by kernel_rfl)
def zun (fn : Int) (items : List Weighted) (i : Int) (bound : Value) : Wy (Int × List Weighted × Unit × Int × Unit) (Value × Unit) (Bool ⊕ Unit) := .i (decide (i < Int.ofNat items.length)) (.i (decide ((0 : Int) ≤ i) && decide (i < Int.ofNat items.length)) (.bn (zxg (items.getD i.toNat default).Value) fun r0 => .i (!r0) (.k (.inl false)) (.i ((items.getD i.toNat default).Value.Kind != bound.Kind) (.k (.inl false)) (.i (fn == (0 : Int)) (.i ((items.getD i.toNat default).Value.Int != (1 : Int)) (.k (.inl false)) (.h (fn, items, (), (IntKind.i64.wrap (i + (1 : Int))), ()) (bound, ()))) (.h (fn, items, (), (IntKind.i64.wrap (i + (1 : Int))), ()) (bound, ()))))) .d) (.k (.inr ()))
def zz6 (x : Int × List Weighted × Unit × Int × Unit) (y : Value × Unit) : Wy (Int × List Weighted × Unit × Int × Unit) (Value × Unit) (Bool ⊕ Unit) := zun x.1 x.2.1 x.2.2.2.1 y.1
def z7q (n : Nat) (fn : Int) (items : List Weighted) (i : Int) (bound : Value) : Bool × (Bool ⊕ Unit) := iterW (zz6) (.inl default) n (fn, items, (), i, ()) (bound, ())
def zbfy (r : Bool ⊕ Unit) : LTree ty := .ite (isL r) (.done .ret [.lit (.bool (getL r))] []) (.done (.exit 0) [] [])
def zbh6 : LL ty (Int × List Weighted × Unit × Int × Unit) := llCons (lInt .i64) (llCons (lSl 52) (llCons (lPtrC 276 0) (llCons (lInt .i64) llNil)))
def zbh9 : BL ty (Value × Unit) := bBox (llMap (fun x => (⟨x.1, x.2.1, x.2.2.1⟩ : Value)) (fun x => (x.Kind, x.Int, x.Text, ())) (fun _ => rfl) (llCons (lInt .i64) (llCons (lInt .i64) (llCons lStr llNil)))) false (bNil)
def zbiz : Cx ty := mkCx base 69 [(137, zbdj)] [] [(4, [(0, .keep), (1, .keep), (7, .keep), (9, .keep)])] [(4, 1, []), (4, 0, [(8, .keep)])] [(4, spW zbh6 zbh9 (zz6) (.inl default) zbfy fun x y => (Int.toNat x.1 + x.2.1.length + Int.toNat x.2.2.2.1 + 1))] []
theorem zboh : LoopOK zbiz (lp (body Tryz.f80) 0) := loopOK_W (id := 4) (V := zbh6) (B := zbh9) (W := zz6) (z := .inl default) (tr := zbfy) (m := fun x y => (Int.toNat x.1 + x.2.1.length + Int.toNat x.2.2.2.1 + 1)) (by kernel_rfl) (by kernel_rfl) fun R H K x y => by kernel_rfl
def zba6 (fn : Int) (items : List Weighted) (op : Int) (bound : Value) : Wy0 (Bool) := .i (decide (fn < (0 : Int))) (.k false) (.i (decide (fn > (3 : Int))) (.k false) (.i (decide (op < (5 : Int))) (.k false) (.i (decide (op > (10 : Int))) (.k false) (.bn (zxg bound) fun r4 => .i (!r4) (.k false) (.i (decide (fn ≤ (1 : Int))) (.i (bound.Kind != (0 : Int)) (.k false) (.bn (z7q (fn.toNat + items.length + Int.toNat (0 : Int) + (1 : Nat)) fn items (0 : Int) bound) fun r2 => .i (isL r2) (.k (getL r2)) (.k true))) (.bn (z7q (fn.toNat + items.length + Int.toNat (0 : Int) + (1 : Nat)) fn items (0 : Int) bound) fun r3 => .i (isL r3) (.k (getL r3)) (.k true)))))))
def zxi (fn : Int) (items : List Weighted) (op : Int) (bound : Value) : Bool × Bool := (zba6 fn items op bound).fin default
def zbgq (r : Bool) : ARes ty := ⟨[.pure (.lit (.bool r))], []⟩
def zbj9 : AL base (Int × List Weighted × Int × Value × Unit) := aCons (aPure (vInt .i64)) (aCons (aPure (vSl 52)) (aCons (aPure (vInt .i64)) (aCons (aPure (vAgg 46)) aNil)))
def z3b : Ab.Spec ty := mkSpec zbj9 fun x => ((zxi x.1 x.2.1 x.2.2.1 x.2.2.2.1).1, zbgq (zxi x.1 x.2.1 x.2.2.1 x.2.2.2.1).2)
theorem zbco : Sound Tryz.prog base 80 z3b :=
  sound_W (cx' := zbiz) draws base_ok mkSame (mkSpecs ⟨(zbmp), trivial⟩) Tryz.call80 Tryz.func80 (c := body Tryz.f80) (by kernel_rfl) (loopsOK_of (l := [lp (body Tryz.f80) 0]) (by kernel_rfl) ⟨zboh, trivial⟩) (sg := ⟨[.pure], []⟩) (A := zbj9) (res := zbgq) (W := fun x => zba6 x.1 x.2.1 x.2.2.1 x.2.2.2.1) (z := default) (fun x => by kernel_rfl) (fun _ => by kernel_rfl)
def zbpf : Cx ty := mkCx base 23 [] [] [] [] [] []
def zbbi (x_ : Atom) : Wy0 (Bool) := .i (x_.Func == (0 : Int)) (.i (Int.ofNat x_.Items.length == (0 : Int)) (.i (x_.Op == (0 : Int)) (.k (x_.Bound.Kind == (0 : Int) && (x_.Bound.Int == (0 : Int) && (x_.Bound.Text.toList == (ByteArray.mk #[]).toList && true)))) (.k false)) (.k false)) (.k false)
def zq3 (x_ : Atom) : Bool × Bool := (zbbi x_).fin default
def zbge (r : Bool) : ARes ty := ⟨[.pure (.lit (.bool r))], []⟩
def zbko : AL base (Atom × Unit) := aCons (aPure (vAgg 48)) aNil
def zbe0 : Ab.Spec ty := mkSpec zbko fun x => ((zq3 x.1).1, zbge (zq3 x.1).2)
theorem zbmt : Sound Tryz.prog base 148 zbe0 :=
  sound_W (cx' := zbpf) draws base_ok mkSame (mkSpecs trivial) Tryz.call148 Tryz.func148 (c := body Tryz.f148) (by kernel_rfl) (loopsOK_of (l := []) (by kernel_rfl) trivial) (sg := ⟨[.pure], []⟩) (A := zbko) (res := zbge) (W := fun x => zbbi x.1) (z := default) (fun x => by kernel_rfl) (fun _ => by kernel_rfl)
def zmj (zbj : List Term → Bool × Bool) (i : Int) (x_ : Atom) : Wy (Unit × Int × Unit) (Atom × Unit) (Bool ⊕ Atom) := .i (decide (i < Int.ofNat x_.Args.length)) (.i (decide ((0 : Int) ≤ i) && decide (i < Int.ofNat x_.Args.length)) (.i (Int.ofNat (List.length (x_.Args.getD i.toNat default)) == (0 : Int)) (.k (.inl false)) (.i (decide ((0 : Int) ≤ i) && decide (i < Int.ofNat x_.Args.length)) (.bn (zbj (x_.Args.getD i.toNat default)) fun r0 => .i (!r0) (.k (.inl false)) (.h ((), (IntKind.i64.wrap (i + (1 : Int))), ()) (x_, ()))) .d)) .d) (.k (.inr x_))
def zqq (zbj : List Term → Bool × Bool) (x : Unit × Int × Unit) (y : Atom × Unit) : Wy (Unit × Int × Unit) (Atom × Unit) (Bool ⊕ Atom) := zmj zbj x.2.1 y.1
def zwg (zbj : List Term → Bool × Bool) (n : Nat) (i : Int) (x_ : Atom) : Bool × (Bool ⊕ Atom) := iterW (zqq zbj) (.inl default) n ((), i, ()) (x_, ())
def z3h (r : Bool ⊕ Atom) : LTree ty := .ite (isL r) (.done .ret [.lit (.bool (getL r))] []) (.done (.exit 0) [.ptr 824 0] [.box (base.enc 48 (getR r)) false])
def z6g : LL ty (Unit × Int × Unit) := llCons (lPtrC 824 0) (llCons (lInt .i64) llNil)
def z5d : BL ty (Atom × Unit) := bBox (llMap (fun x => (⟨x.1, ⟨x.2.1, x.2.2.1⟩, x.2.2.2.1, x.2.2.2.2.1, x.2.2.2.2.2.1, x.2.2.2.2.2.2.1, ⟨x.2.2.2.2.2.2.2.1, x.2.2.2.2.2.2.2.2.1, x.2.2.2.2.2.2.2.2.2.1⟩⟩ : Atom)) (fun x => (x.Kind, x.Row.Table, x.Row.Seq, x.Args, x.Func, x.Items, x.Op, x.Bound.Kind, x.Bound.Int, x.Bound.Text, ())) (fun _ => rfl) (llCons (lInt .i64) (llCons (lInt .i64) (llCons (lInt .i64) (llCons (lSl 23) (llCons (lInt .i64) (llCons (lSl 52) (llCons (lInt .i64) (llCons (lInt .i64) (llCons (lInt .i64) (llCons lStr llNil))))))))))) false (bNil)
def zlh (zbj : List Term → Bool × Bool) (i : Int) (x_ : Atom) : Wy (Unit × Int × Unit) (Atom × Unit) (Bool ⊕ Unit) := .i (decide (i < Int.ofNat x_.Items.length)) (.i (decide ((0 : Int) ≤ i) && decide (i < Int.ofNat x_.Items.length)) (.i (Int.ofNat (x_.Items.getD i.toNat default).Ann.length == (0 : Int)) (.k (.inl false)) (.i (decide ((0 : Int) ≤ i) && decide (i < Int.ofNat x_.Items.length)) (.bn (zbj (x_.Items.getD i.toNat default).Ann) fun r3 => .i (!r3) (.k (.inl false)) (.i (decide (i > (0 : Int))) (.i (decide ((0 : Int) ≤ IntKind.i64.wrap (i - (1 : Int))) && decide (IntKind.i64.wrap (i - (1 : Int)) ≤ i) && decide (i ≤ Int.ofNat x_.Items.length)) (.i (decide ((0 : Int) ≤ i) && decide (i ≤ IntKind.i64.wrap (i + (1 : Int))) && decide (IntKind.i64.wrap (i + (1 : Int)) ≤ Int.ofNat x_.Items.length)) (.bn (zoo (List.take (i.toNat - (IntKind.i64.wrap (i - (1 : Int))).toNat) (List.drop (IntKind.i64.wrap (i - (1 : Int))).toNat x_.Items)) (List.take ((IntKind.i64.wrap (i + (1 : Int))).toNat - i.toNat) (List.drop i.toNat x_.Items))) fun r2 => .i (decide (r2 > (0 : Int))) (.k (.inl false)) (.h ((), (IntKind.i64.wrap (i + (1 : Int))), ()) (x_, ()))) .d) .d) (.h ((), (IntKind.i64.wrap (i + (1 : Int))), ()) (x_, ())))) .d)) .d) (.k (.inr ()))
def zpf (zbj : List Term → Bool × Bool) (x : Unit × Int × Unit) (y : Atom × Unit) : Wy (Unit × Int × Unit) (Atom × Unit) (Bool ⊕ Unit) := zlh zbj x.2.1 y.1
def z3m (zbj : List Term → Bool × Bool) (n : Nat) (i : Int) (x_ : Atom) : Bool × (Bool ⊕ Unit) := iterW (zpf zbj) (.inl default) n ((), i, ()) (x_, ())
def z2s (r : Bool ⊕ Unit) : LTree ty := .ite (isL r) (.done .ret [.lit (.bool (getL r))] []) (.done (.exit 3) [] [])
def z3e : LL ty (Unit × Int × Unit) := llCons (lPtrC 824 0) (llCons (lInt .i64) llNil)
def z34 : BL ty (Atom × Unit) := bBox (llMap (fun x => (⟨x.1, ⟨x.2.1, x.2.2.1⟩, x.2.2.2.1, x.2.2.2.2.1, x.2.2.2.2.2.1, x.2.2.2.2.2.2.1, ⟨x.2.2.2.2.2.2.2.1, x.2.2.2.2.2.2.2.2.1, x.2.2.2.2.2.2.2.2.2.1⟩⟩ : Atom)) (fun x => (x.Kind, x.Row.Table, x.Row.Seq, x.Args, x.Func, x.Items, x.Op, x.Bound.Kind, x.Bound.Int, x.Bound.Text, ())) (fun _ => rfl) (llCons (lInt .i64) (llCons (lInt .i64) (llCons (lInt .i64) (llCons (lSl 23) (llCons (lInt .i64) (llCons (lSl 52) (llCons (lInt .i64) (llCons (lInt .i64) (llCons (lInt .i64) (llCons lStr llNil))))))))))) false (bNil)
def zwi (zbj : List Term → Bool × Bool) : Cx ty := mkCx base 206 [(24, z4r), (35, zni), (46, (zxf zbj)), (66, zbbw), (67, z6t), (80, z3b), (148, zbe0)] [] [(6, [(1, .keep), (3, .keep)]), (21, [(1, .keep), (4, .keep)])] [(6, 1, [(1, .keep)]), (6, 0, [(2, .keep)]), (21, 4, []), (21, 0, [(2, .keep)])] [(6, spW z6g z5d (zqq zbj) (.inl default) z3h fun x y => ((Int.toNat x.2.1 + 1) + y.1.Args.length + y.1.Items.length)), (21, spW z3e z34 (zpf zbj) (.inl default) z2s fun x y => ((Int.toNat x.2.1 + 1) + y.1.Args.length + y.1.Items.length))] []
theorem zbid (zbj : List Term → Bool × Bool) : LoopOK (zwi zbj) (lp (body Tryz.f103) 0) := loopOK_W (id := 6) (V := z6g) (B := z5d) (W := zqq zbj) (z := .inl default) (tr := z3h) (m := fun x y => ((Int.toNat x.2.1 + 1) + y.1.Args.length + y.1.Items.length)) (by kernel_rfl) (by kernel_rfl) fun R H K x y => by kernel_rfl
theorem zbg5 (zbj : List Term → Bool × Bool) : LoopOK (zwi zbj) (lp (body Tryz.f103) 1) := loopOK_W (id := 21) (V := z3e) (B := z34) (W := zpf zbj) (z := .inl default) (tr := z2s) (m := fun x y => ((Int.toNat x.2.1 + 1) + y.1.Args.length + y.1.Items.length)) (by kernel_rfl) (by kernel_rfl) fun R H K x y => by kernel_rfl
def zxn (zbj : List Term → Bool × Bool) (x_ : Atom) : Wy0 (Bool) := .i (x_.Kind == (0 : Int)) (.i (decide (x_.Row.Table ≥ (1 : Int))) (.i (decide (x_.Row.Seq ≥ (1 : Int))) (.i (Int.ofNat x_.Args.length == (0 : Int)) (.bn (zq3 (Atom.mk x_.Kind x_.Row x_.Args x_.Func x_.Items x_.Op x_.Bound)) fun r6 => .k r6) (.k false)) (.k false)) (.k false)) (.i (!(x_.Row.Table == (0 : Int) && (x_.Row.Seq == (0 : Int) && true))) (.k false) (.bn (zwg zbj ((Int.toNat (0 : Int) + (1 : Nat)) + (Atom.mk x_.Kind x_.Row x_.Args x_.Func x_.Items x_.Op x_.Bound).Args.length + (Atom.mk x_.Kind x_.Row x_.Args x_.Func x_.Items x_.Op x_.Bound).Items.length) (0 : Int) (Atom.mk x_.Kind x_.Row x_.Args x_.Func x_.Items x_.Op x_.Bound)) fun r17 => .i (isL r17) (.k (getL r17)) (.i ((getR r17).Kind == (1 : Int)) (.i (Int.ofNat (getR r17).Args.length == (2 : Int)) (.bn (zq3 (Atom.mk (getR r17).Kind (getR r17).Row (getR r17).Args (getR r17).Func (getR r17).Items (getR r17).Op (getR r17).Bound)) fun r8 => .i (r8) (.i (decide ((0 : Int) ≤ (0 : Int)) && decide ((0 : Int) < Int.ofNat (getR r17).Args.length)) (.i (decide ((0 : Int) ≤ (1 : Int)) && decide ((1 : Int) < Int.ofNat (getR r17).Args.length)) (.bn (zvu ((getR r17).Args.getD (Int.toNat (0 : Int)) default) ((getR r17).Args.getD (Int.toNat (1 : Int)) default)) fun r7 => .k (!r7)) .d) .d) (.k false)) (.k false)) (.i ((getR r17).Kind == (2 : Int)) (.i (Int.ofNat (getR r17).Args.length == (1 : Int)) (.bn (zq3 (Atom.mk (getR r17).Kind (getR r17).Row (getR r17).Args (getR r17).Func (getR r17).Items (getR r17).Op (getR r17).Bound)) fun r12 => .i (r12) (.i (decide ((0 : Int) ≤ (0 : Int)) && decide ((0 : Int) < Int.ofNat (getR r17).Args.length)) (.i (Int.ofNat (List.length ((getR r17).Args.getD (Int.toNat (0 : Int)) default)) == (1 : Int)) (.i (decide ((0 : Int) ≤ (0 : Int)) && decide ((0 : Int) < Int.ofNat (getR r17).Args.length)) (.bn (zny ((getR r17).Args.getD (Int.toNat (0 : Int)) default)) fun r10 => .i (!r10) (.i (decide ((0 : Int) ≤ (0 : Int)) && decide ((0 : Int) < Int.ofNat (getR r17).Args.length)) (.bn (zuf ((getR r17).Args.getD (Int.toNat (0 : Int)) default)) fun r9 => .k (!r9)) .d) (.k false)) .d) (.i (decide ((0 : Int) ≤ (0 : Int)) && decide ((0 : Int) < Int.ofNat (getR r17).Args.length)) (.bn (zuf ((getR r17).Args.getD (Int.toNat (0 : Int)) default)) fun r11 => .k (!r11)) .d)) .d) (.k false)) (.k false)) (.i ((getR r17).Kind == (3 : Int)) (.i (Int.ofNat (getR r17).Args.length == (1 : Int)) (.bn (zq3 (Atom.mk (getR r17).Kind (getR r17).Row (getR r17).Args (getR r17).Func (getR r17).Items (getR r17).Op (getR r17).Bound)) fun r14 => .i (r14) (.i (decide ((0 : Int) ≤ (0 : Int)) && decide ((0 : Int) < Int.ofNat (getR r17).Args.length)) (.bn (zny ((getR r17).Args.getD (Int.toNat (0 : Int)) default)) fun r13 => .k (!r13)) .d) (.k false)) (.k false)) (.i ((getR r17).Kind == (4 : Int)) (.i (Int.ofNat (getR r17).Args.length != (0 : Int)) (.k false) (.i (Int.ofNat (getR r17).Items.length == (0 : Int)) (.k false) (.i (decide (Int.ofNat (getR r17).Items.length > (1024 : Int))) (.k false) (.bn (zxi (getR r17).Func (getR r17).Items (getR r17).Op (getR r17).Bound) fun r16 => .i (!r16) (.k false) (.bn (z3m zbj ((Int.toNat (0 : Int) + (1 : Nat)) + (Atom.mk (getR r17).Kind (getR r17).Row (getR r17).Args (getR r17).Func (getR r17).Items (getR r17).Op (getR r17).Bound).Args.length + (Atom.mk (getR r17).Kind (getR r17).Row (getR r17).Args (getR r17).Func (getR r17).Items (getR r17).Op (getR r17).Bound).Items.length) (0 : Int) (Atom.mk (getR r17).Kind (getR r17).Row (getR r17).Args (getR r17).Func (getR r17).Items (getR r17).Op (getR r17).Bound)) fun r15 => .i (isL r15) (.k (getL r15)) (.k true)))))) (.k false)))))))
def zp5 (zbj : List Term → Bool × Bool) (x_ : Atom) : Bool × Bool := (zxn zbj x_).fin default
theorem zbfu (zbj : List Term → Bool × Bool) (zbos : Sound Tryz.prog base 46 (zxf zbj)) : Sound Tryz.prog base 103 (zp2 (zp5 zbj)) :=
  sound_W (cx' := (zwi zbj)) draws base_ok mkSame (mkSpecs ⟨(zbdo), (zrq), (zbos), (zbly), (zbi4), (zbco), (zbmt), trivial⟩) Tryz.call103 Tryz.func103 (c := body Tryz.f103) (by kernel_rfl) (loopsOK_of (l := [lp (body Tryz.f103) 0, lp (body Tryz.f103) 1]) (by kernel_rfl) ⟨zbid zbj, zbg5 zbj, trivial⟩) (sg := ⟨[.pure], []⟩) (A := zbcu) (res := z7b) (W := fun x => zxn zbj x.1) (z := default) (fun x => by kernel_rfl) (fun _ => by kernel_rfl)
def zbcv : Nat → (List Term → Bool × Bool) × (Atom → Bool × Bool)
  | 0 => (fun _ => (false, default), fun _ => (false, default))
  | n + 1 => (zw8 ((zbcv n).2), zp5 ((zbcv n).1))
def zxd (n : Nat) : List Term → Bool × Bool := (zbcv n).1
def zp7 (n : Nat) : Atom → Bool × Bool := (zbcv n).2
theorem zbnu (n : Nat) : zxd (n + 1) = zw8 (zp7 n) := rfl
theorem zbjp (n : Nat) : zp7 (n + 1) = zp5 (zxd n) := rfl
theorem zbeo : ∀ n, Sound Tryz.prog base 46 (zxf (zxd n)) ∧ Sound Tryz.prog base 103 (zp2 (zp7 n))
  | 0 => ⟨sound_false Tryz.call46 (fun _ => rfl), sound_false Tryz.call103 (fun _ => rfl)⟩
  | n + 1 => by
    have ih := zbeo n
    exact ⟨zbk6 _ (ih.2), zbfu _ (ih.1)⟩
def zbgx : List Term → Bool × Bool := zxd 1000
def zbdl : Ab.Spec ty := zxf zbgx
theorem zbml : Sound Tryz.prog base 46 zbdl := (zbeo 1000).1
def zboi : Atom → Bool × Bool := zp7 1000
def zbjh : Ab.Spec ty := zp2 zboi
theorem zbre : Sound Tryz.prog base 103 zbjh := (zbeo 1000).2
def zbp2 : Cx ty := mkCx base 8 [] [] [] [] [] []
def zbd5 (x_ : Atom) : Wy0 (List Term) := .k [TermOf.mk (1 : Int) [FactorOf.mk (Atom.mk x_.Kind x_.Row x_.Args x_.Func x_.Items x_.Op x_.Bound) (1 : Int)]]
def z4y (x_ : Atom) : Bool × List Term := (zbd5 x_).fin default
def zbhv (r : List Term) : ARes ty := ⟨[.own 42 r], []⟩
def zbl8 : AL base (Atom × Unit) := aCons (aPure (vAgg 48)) aNil
def zbgd : Ab.Spec ty := mkSpec zbl8 fun x => ((z4y x.1).1, zbhv (z4y x.1).2)
theorem zbns : Sound Tryz.prog base 63 zbgd :=
  sound_W (cx' := zbp2) draws base_ok mkSame (mkSpecs trivial) Tryz.call63 Tryz.func63 (c := body Tryz.f63) (by kernel_rfl) (loopsOK_of (l := []) (by kernel_rfl) trivial) (sg := ⟨[.own 42], []⟩) (A := zbl8) (res := zbhv) (W := fun x => zbd5 x.1) (z := default) (fun x => by kernel_rfl) (fun _ => by kernel_rfl)
def zbnk : Cx ty := mkCx base 30 [] [] [] [] [] []
def z4s (op : Int) (sign : Int) : Wy0 (Bool) := .i (op == (5 : Int)) (.k (sign == (0 : Int))) (.i (op == (6 : Int)) (.k (sign != (0 : Int))) (.i (op == (7 : Int)) (.k (decide (sign < (0 : Int)))) (.i (op == (8 : Int)) (.k (decide (sign ≤ (0 : Int)))) (.i (op == (9 : Int)) (.k (decide (sign > (0 : Int)))) (.i (op == (10 : Int)) (.k (decide (sign ≥ (0 : Int)))) (.k false))))))
def zw9 (op : Int) (sign : Int) : Bool × Bool := (z4s op sign).fin default
def zbb4 (r : Bool) : ARes ty := ⟨[.pure (.lit (.bool r))], []⟩
def zbfx : AL base (Int × Int × Unit) := aCons (aPure (vInt .i64)) (aCons (aPure (vInt .i64)) aNil)
def zbas : Ab.Spec ty := mkSpec zbfx fun x => ((zw9 x.1 x.2.1).1, zbb4 (zw9 x.1 x.2.1).2)
theorem zbld : Sound Tryz.prog base 81 zbas :=
  sound_W (cx' := zbnk) draws base_ok mkSame (mkSpecs trivial) Tryz.call81 Tryz.func81 (c := body Tryz.f81) (by kernel_rfl) (loopsOK_of (l := []) (by kernel_rfl) trivial) (sg := ⟨[.pure], []⟩) (A := zbfx) (res := zbb4) (W := fun x => z4s x.1 x.2.1) (z := default) (fun x => by kernel_rfl) (fun _ => by kernel_rfl)
def zbqf : Cx ty := mkCx base 3 [] [] [] [] [] []
def zbm7 : Wy0 (List Term) := .k [TermOf.mk (1 : Int) []]
def zbme : Bool × List Term := (zbm7).fin default
def zbkm (r : List Term) : ARes ty := ⟨[.own 42 r], []⟩
def zbm3 : AL base (Unit) := aNil
def zbh1 : Ab.Spec ty := mkSpec zbm3 fun x => ((zbme ).1, zbkm (zbme ).2)
theorem zbn2 : Sound Tryz.prog base 30 zbh1 :=
  sound_W (cx' := zbqf) draws base_ok mkSame (mkSpecs trivial) Tryz.call30 Tryz.func30 (c := body Tryz.f30) (by kernel_rfl) (loopsOK_of (l := []) (by kernel_rfl) trivial) (sg := ⟨[.own 42], []⟩) (A := zbm3) (res := zbkm) (W := fun x => zbm7 ) (z := default) (fun x => by kernel_rfl) (fun _ => by kernel_rfl)
def zbql : Cx ty := mkCx base 8 [(102, z4q)] [] [] [] [] []
def zbgv (a : List Term) : Wy0 (List Term × Int) := .bn (zz4 a) fun r0 => .i (!r0) (.k ([], (6 : Int))) (.k (a, (0 : Int)))
def z9c (a : List Term) : Bool × (List Term × Int) := (zbgv a).fin default
def zbkn (r : List Term × Int) : ARes ty := ⟨[.pure (.sl 42 r.1), .pure (.lit (.int .i64 r.2))], []⟩
def zbm9 : AL base (List Term × Unit) := aCons (aPure (vSl 42)) aNil
def zbit : Ab.Spec ty := mkSpec zbm9 fun x => ((z9c x.1).1, zbkn (z9c x.1).2)
theorem zbom : Sound Tryz.prog base 56 zbit :=
  sound_W (cx' := zbql) draws base_ok mkSame (mkSpecs ⟨(zbew), trivial⟩) Tryz.call56 Tryz.func56 (c := body Tryz.f56) (by kernel_rfl) (loopsOK_of (l := []) (by kernel_rfl) trivial) (sg := ⟨[.pure, .pure], []⟩) (A := zbm9) (res := zbkn) (W := fun x => zbgv x.1) (z := default) (fun x => by kernel_rfl) (fun _ => by kernel_rfl)
def zwn (fn : Int) (items : List Weighted) (op : Int) (i : Int) (bound : Value) : Wy (Int × List Weighted × Int × Unit × Int × Unit) (Value × Unit) (Int ⊕ (Int × List Weighted × Int × Value)) := .i (decide (i < Int.ofNat items.length)) (.i (decide ((0 : Int) ≤ i) && decide (i < Int.ofNat items.length)) (.bn (zbgx (items.getD i.toNat default).Ann) fun r0 => .i (!r0) (.k (.inl (1 : Int))) (.h (fn, items, op, (), (IntKind.i64.wrap (i + (1 : Int))), ()) (bound, ()))) .d) (.k (.inr (fn, items, op, bound)))
def z2x (x : Int × List Weighted × Int × Unit × Int × Unit) (y : Value × Unit) : Wy (Int × List Weighted × Int × Unit × Int × Unit) (Value × Unit) (Int ⊕ (Int × List Weighted × Int × Value)) := zwn x.1 x.2.1 x.2.2.1 x.2.2.2.2.1 y.1
def zbkb (n : Nat) (fn : Int) (items : List Weighted) (op : Int) (i : Int) (bound : Value) : Bool × (Int ⊕ (Int × List Weighted × Int × Value)) := iterW (z2x) (.inl default) n (fn, items, op, (), i, ()) (bound, ())
def zbi1 (r : Int ⊕ (Int × List Weighted × Int × Value)) : LTree ty := .ite (isL r) (.done .ret [.lit (.slice none 0 0), .lit (.int .i64 (getL r))] []) (.done (.exit 0) [.lit (.int .i64 ((getR r).1)), .sl 52 ((getR r).2.1), .lit (.int .i64 ((getR r).2.2.1)), .ptr 220 0] [.box (base.enc 46 ((getR r).2.2.2)) false])
def zbju : LL ty (Int × List Weighted × Int × Unit × Int × Unit) := llCons (lInt .i64) (llCons (lSl 52) (llCons (lInt .i64) (llCons (lPtrC 220 0) (llCons (lInt .i64) llNil))))
def zbkd : BL ty (Value × Unit) := bBox (llMap (fun x => (⟨x.1, x.2.1, x.2.2.1⟩ : Value)) (fun x => (x.Kind, x.Int, x.Text, ())) (fun _ => rfl) (llCons (lInt .i64) (llCons (lInt .i64) (llCons lStr llNil)))) false (bNil)
def zbj3 : Cx ty := mkCx base 55 [(30, zbh1), (37, z3a), (46, zbdl), (56, zbit), (63, zbgd), (80, z3b), (81, zbas), (82, zke)] [] [(4, [(0, .keep), (1, .keep), (2, .keep), (7, .keep), (10, .keep)])] [(4, 1, [(0, .keep), (1, .keep), (2, .keep), (7, .keep)]), (4, 0, [(8, .keep), (9, .keep)])] [(4, spW zbju zbkd (z2x) (.inl default) zbi1 fun x y => (Int.toNat x.1 + x.2.1.length + Int.toNat x.2.2.1 + Int.toNat x.2.2.2.2.1 + 1))] []
theorem zbo4 : LoopOK zbj3 (lp (body Tryz.f34) 0) := loopOK_W (id := 4) (V := zbju) (B := zbkd) (W := z2x) (z := .inl default) (tr := zbi1) (m := fun x y => (Int.toNat x.1 + x.2.1.length + Int.toNat x.2.2.1 + Int.toNat x.2.2.2.2.1 + 1)) (by kernel_rfl) (by kernel_rfl) fun R H K x y => by kernel_rfl
def zbds (fn : Int) (items : List Weighted) (op : Int) (bound : Value) : Wy0 (List Term × Int) := .bn (zxi fn items op bound) fun r7 => .i (!r7) (.k ([], (1 : Int))) (.bn (zbkb (fn.toNat + items.length + op.toNat + Int.toNat (0 : Int) + (1 : Nat)) fn items op (0 : Int) bound) fun r6 => .i (isL r6) (.k ([], getL r6)) (.bn (zxh (getR r6).snd.fst) fun r5 => .i (Int.ofNat r5.length == (0 : Int)) (.i ((getR r6).fst == (0 : Int)) (.bn (zcy (0 : Int) (getR r6).snd.snd.snd.Int) fun r3 => .bn (zw9 (getR r6).snd.snd.fst r3) fun r2 => .i (r2) (.k (zbme.snd, (0 : Int))) (.k ([], (0 : Int)))) (.k ([], (0 : Int)))) (.bn (z9c (z4y (Atom.mk (4 : Int) (RowID.mk (0 : Int) (0 : Int)) [] (getR r6).fst r5 (getR r6).snd.snd.fst (getR r6).snd.snd.snd)).snd) fun r4 => .k (r4.fst, r4.snd))))
def z56 (fn : Int) (items : List Weighted) (op : Int) (bound : Value) : Bool × (List Term × Int) := (zbds fn items op bound).fin default
def zbhh (r : List Term × Int) : ARes ty := ⟨[.pure (.sl 42 r.1), .pure (.lit (.int .i64 r.2))], []⟩
def zbl4 : AL base (Int × List Weighted × Int × Value × Unit) := aCons (aPure (vInt .i64)) (aCons (aPure (vSl 52)) (aCons (aPure (vInt .i64)) (aCons (aPure (vAgg 46)) aNil)))
def zbf1 : Ab.Spec ty := mkSpec zbl4 fun x => ((z56 x.1 x.2.1 x.2.2.1 x.2.2.2.1).1, zbhh (z56 x.1 x.2.1 x.2.2.1 x.2.2.2.1).2)
theorem zbnw : Sound Tryz.prog base 34 zbf1 :=
  sound_W (cx' := zbj3) draws base_ok mkSame (mkSpecs ⟨(zbn2), (zbcb), (zbml), (zbom), (zbns), (zbco), (zbld), (zlj), trivial⟩) Tryz.call34 Tryz.func34 (c := body Tryz.f34) (by kernel_rfl) (loopsOK_of (l := [lp (body Tryz.f34) 0]) (by kernel_rfl) ⟨zbo4, trivial⟩) (sg := ⟨[.pure, .pure], []⟩) (A := zbl4) (res := zbhh) (W := fun x => zbds x.1 x.2.1 x.2.2.1 x.2.2.2.1) (z := default) (fun x => by kernel_rfl) (fun _ => by kernel_rfl)
def zre (fn : Int) (items : List Weighted) (op : Int) (i : Int) (bound : Value) : Wy (Int × List Weighted × Int × Unit × Int × Unit) (Value × Unit) (Bool ⊕ (Int × List Weighted × Int × Value)) := .i (decide (i < Int.ofNat items.length)) (.i (decide ((0 : Int) ≤ i) && decide (i < Int.ofNat items.length)) (.bn (z3w (30 : Int) [(items.getD i.toNat default).Ann]) fun r0 => .i (!r0) (.k (.inl true)) (.i (decide ((0 : Int) ≤ i) && decide (i < Int.ofNat items.length)) (.i (decide (Int.ofNat (items.getD i.toNat default).Value.Text.size > (300 : Int))) (.k (.inl true)) (.h (fn, items, op, (), (IntKind.i64.wrap (i + (1 : Int))), ()) (bound, ()))) .d)) .d) (.k (.inr (fn, items, op, bound)))
def zrx (x : Int × List Weighted × Int × Unit × Int × Unit) (y : Value × Unit) : Wy (Int × List Weighted × Int × Unit × Int × Unit) (Value × Unit) (Bool ⊕ (Int × List Weighted × Int × Value)) := zre x.1 x.2.1 x.2.2.1 x.2.2.2.2.1 y.1
def zri (n : Nat) (fn : Int) (items : List Weighted) (op : Int) (i : Int) (bound : Value) : Bool × (Bool ⊕ (Int × List Weighted × Int × Value)) := iterW (zrx) (.inl default) n (fn, items, op, (), i, ()) (bound, ())
def zxx (r : Bool ⊕ (Int × List Weighted × Int × Value)) : LTree ty := .ite (isL r) (.done .ret [.lit (.bool (getL r))] []) (.done (.exit 0) [.lit (.int .i64 ((getR r).1)), .sl 52 ((getR r).2.1), .lit (.int .i64 ((getR r).2.2.1)), .ptr 312 0] [.box (base.enc 46 ((getR r).2.2.2)) false])
def zy8 : LL ty (Int × List Weighted × Int × Unit × Int × Unit) := llCons (lInt .i64) (llCons (lSl 52) (llCons (lInt .i64) (llCons (lPtrC 312 0) (llCons (lInt .i64) llNil))))
def zy2 : BL ty (Value × Unit) := bBox (llMap (fun x => (⟨x.1, x.2.1, x.2.2.1⟩ : Value)) (fun x => (x.Kind, x.Int, x.Text, ())) (fun _ => rfl) (llCons (lInt .i64) (llCons (lInt .i64) (llCons lStr llNil)))) false (bNil)
def zz0 : Cx ty := mkCx base0 78 [(11, zbep), (12, zbis), (15, zbgm), (33, zwe), (34, zbf1), (35, zni), (36, zuu), (37, z3a)] [] [(6, [(0, .keep), (1, .keep), (2, .keep), (7, .keep), (9, .keep)])] [(6, 1, [(0, .keep), (1, .keep), (2, .keep), (7, .keep)]), (6, 0, [(8, .keep)])] [(6, spW zy8 zy2 (zrx) (.inl default) zxx fun x y => (Int.toNat x.1 + x.2.1.length + Int.toNat x.2.2.1 + Int.toNat x.2.2.2.2.1 + 1))] []
theorem zbcw : LoopOK zz0 (lp (body Tryz.f6) 0) := loopOK_W (id := 6) (V := zy8) (B := zy2) (W := zrx) (z := .inl default) (tr := zxx) (m := fun x y => (Int.toNat x.1 + x.2.1.length + Int.toNat x.2.2.1 + Int.toNat x.2.2.2.2.1 + 1)) (by kernel_rfl) (by kernel_rfl) fun R H K x y => by kernel_rfl
def zsv (fn : Int) (items : List Weighted) (op : Int) (bound : Value) : Wy0 (Bool) := .i (decide (Int.ofNat items.length > (5 : Int))) (.k true) (.i (decide (Int.ofNat bound.Text.size > (300 : Int))) (.k true) (.bn (zri (fn.toNat + items.length + op.toNat + Int.toNat (0 : Int) + (1 : Nat)) fn items op (0 : Int) bound) fun r8 => .i (isL r8) (.k (getL r8)) (.bn (zpj (getR r8).fst (getR r8).snd.fst (getR r8).snd.snd.fst (getR r8).snd.snd.snd) fun r7 => .bn (z56 (getR r8).fst (getR r8).snd.fst (getR r8).snd.snd.fst (getR r8).snd.snd.snd) fun r6 => .bn (zn1 (getR r8).snd.fst) fun r5 => .bn (zxh (getR r8).snd.fst) fun r4 => .bn (zoo r5 r4) fun r3 => .i (r3 == (0 : Int)) (.bn (z5n r7.fst r7.snd r6.fst r6.snd) fun r2 => .k r2) (.k false))))
def zh0 (fn : Int) (items : List Weighted) (op : Int) (bound : Value) : Bool × Bool := (zsv fn items op bound).fin default
def zqr (r : Bool) : ARes ty := ⟨[.pure (.lit (.bool r))], []⟩
def z0c : AL base0 (Int × List Weighted × Int × Value × Unit) := aCons (aPure (vInt .i64)) (aCons (aPure (vSl 52)) (aCons (aPure (vInt .i64)) (aCons (aPure (vAgg 46)) aNil)))
def zpx : Ab.Spec ty := mkSpec z0c fun x => ((zh0 x.1 x.2.1 x.2.2.1 x.2.2.2.1).1, zqr (zh0 x.1 x.2.1 x.2.2.1 x.2.2.2.1).2)
theorem z8u : Sound Tryz.prog base0 6 zpx :=
  sound_W (cx' := zz0) draws zlc mkSame (mkSpecs ⟨(zbmz), (zbof.nodr), (zbnr.nodr), (z32.nodr), (zbnw.nodr), (zrq.nodr), (z2k.nodr), (zbcb.nodr), trivial⟩) Tryz.call6 Tryz.func6 (c := body Tryz.f6) (by kernel_rfl) (loopsOK_of (l := [lp (body Tryz.f6) 0]) (by kernel_rfl) ⟨zbcw, trivial⟩) (sg := ⟨[.pure], []⟩) (A := z0c) (res := zqr) (W := fun x => zsv x.1 x.2.1 x.2.2.1 x.2.2.2.1) (z := default) (fun x => by kernel_rfl) (fun _ => by kernel_rfl)

def trV (v : Value) : TT := .l [.i v.Kind, .i v.Int, trB v.Text]
mutual
def trAtom : Atom → TT
  | ⟨k, r, a, f, i, o, b⟩ => .l [.i k, .i r.Table, .i r.Seq, .l (trAnns a), .i f, .l (trItems i), .i o, trV b]
def zry : Factor → TT
  | ⟨x, e⟩ => .l [trAtom x, .i e]
def zco : List Factor → List TT
  | [] => []
  | x :: r => zry x :: zco r
def trTerm : Term → TT
  | ⟨c, fs⟩ => .l [.l (zco fs), .i c]
def trAnn : List Term → List TT
  | [] => []
  | x :: r => trTerm x :: trAnn r
def trAnns : List (List Term) → List TT
  | [] => []
  | x :: r => .l (trAnn x) :: trAnns r
def trItem : Weighted → TT
  | ⟨v, a⟩ => .l [trV v, .l (trAnn a)]
def trItems : List Weighted → List TT
  | [] => []
  | x :: r => trItem x :: trItems r
end
theorem zws : ∀ l, zco l = l.map zry
  | [] => by rw [zco]; rfl
  | x :: r => by rw [zco, zws r]; rfl
theorem z91 : ∀ l, trAnn l = l.map trTerm
  | [] => by rw [trAnn]; rfl
  | x :: r => by rw [trAnn, z91 r]; rfl
theorem z5m : ∀ l, trAnns l = l.map fun x => .l (trAnn x)
  | [] => by rw [trAnns]; rfl
  | x :: r => by rw [trAnns, z5m r]; rfl
theorem zod : ∀ l, trItems l = l.map trItem
  | [] => by rw [trItems]; rfl
  | x :: r => by rw [trItems, zod r]; rfl
theorem zbay : ∀ a b : List UInt8, (a.map fun x => TT.i (x.toNat : Int)) = (b.map fun x => TT.i (x.toNat : Int)) → a = b
  | [], [] => fun _ => rfl
  | [], _ :: _ => fun h => by simp at h
  | _ :: _, [] => fun h => by simp at h
  | x :: a, y :: b => fun h => by
    simp only [List.map, List.cons.injEq, TT.i.injEq] at h
    rw [zbay a b h.2, UInt8.toNat_inj.1 (Int.ofNat.inj h.1)]
theorem trV_inj {a b : Value} (h : trV a = trV b) : a = b := by
  obtain ⟨k, n, s⟩ := a; obtain ⟨k', n', s'⟩ := b
  simp only [trV, trB, TT.l.injEq, List.cons.injEq, TT.i.injEq, and_true] at h
  obtain ⟨rfl, rfl, h⟩ := h
  have := zbay _ _ h
  obtain ⟨⟨l⟩⟩ := s; obtain ⟨⟨l'⟩⟩ := s'
  simp only at this; subst this; rfl
mutual
theorem zbry : ∀ a b : Atom, trAtom a = trAtom b → a = b
  | ⟨k, r, a, f, i, o, v⟩, ⟨k', r', a', f', i', o', v'⟩ => fun h => by
    simp only [trAtom, TT.l.injEq, List.cons.injEq, TT.i.injEq, and_true] at h
    obtain ⟨rfl, h1, h2, h3, rfl, h4, rfl, h5⟩ := h
    obtain ⟨t, s⟩ := r; obtain ⟨t', s'⟩ := r'
    simp only at h1 h2; subst h1 h2
    rw [zbn1 a a' h3, zbnb i i' h4, trV_inj h5]
theorem zbqk : ∀ a b : Factor, zry a = zry b → a = b
  | ⟨x, e⟩, ⟨x', e'⟩ => fun h => by
    simp only [zry, TT.l.injEq, List.cons.injEq, TT.i.injEq, and_true] at h
    rw [zbry x x' h.1, h.2]
theorem zbjw : ∀ a b : List Factor, zco a = zco b → a = b
  | [], [] => fun _ => rfl
  | [], _ :: _ => fun h => by simp [zco] at h
  | _ :: _, [] => fun h => by simp [zco] at h
  | x :: a, y :: b => fun h => by
    simp only [zco, List.cons.injEq] at h
    rw [zbqk x y h.1, zbjw a b h.2]
theorem zbrn : ∀ a b : Term, trTerm a = trTerm b → a = b
  | ⟨c, l⟩, ⟨c', l'⟩ => fun h => by
    simp only [trTerm, TT.l.injEq, List.cons.injEq, TT.i.injEq, and_true] at h
    rw [zbjw l l' h.1, h.2]
theorem z92 : ∀ a b : List Term, trAnn a = trAnn b → a = b
  | [], [] => fun _ => rfl
  | [], _ :: _ => fun h => by simp [trAnn] at h
  | _ :: _, [] => fun h => by simp [trAnn] at h
  | x :: a, y :: b => fun h => by
    simp only [trAnn, List.cons.injEq] at h
    rw [zbrn x y h.1, z92 a b h.2]
theorem zbn1 : ∀ a b : List (List Term), trAnns a = trAnns b → a = b
  | [], [] => fun _ => rfl
  | [], _ :: _ => fun h => by simp [trAnns] at h
  | _ :: _, [] => fun h => by simp [trAnns] at h
  | x :: a, y :: b => fun h => by
    simp only [trAnns, List.cons.injEq, TT.l.injEq] at h
    rw [z92 x y h.1, zbn1 a b h.2]
theorem zbol : ∀ a b : Weighted, trItem a = trItem b → a = b
  | ⟨c, l⟩, ⟨c', l'⟩ => fun h => by
    simp only [trItem, TT.l.injEq, List.cons.injEq, and_true] at h
    rw [trV_inj h.1, z92 l l' h.2]
theorem zbnb : ∀ a b : List Weighted, trItems a = trItems b → a = b
  | [], [] => fun _ => rfl
  | [], _ :: _ => fun h => by simp [trItems] at h
  | _ :: _, [] => fun h => by simp [trItems] at h
  | x :: a, y :: b => fun h => by
    simp only [trItems, List.cons.injEq] at h
    rw [zbol x y h.1, zbnb a b h.2]
end

def zha (P : List Term → Prop) (x : Atom) : Prop :=
  (x.Args.length ≤ 1000000 ∧ x.Items.length ≤ 1000000 ∧ x.Bound.Text.size ≤ 1000000000000) ∧ (∀ a ∈ x.Args, P a) ∧ ∀ w ∈ x.Items, w.Value.Text.size ≤ 1000000000000 ∧ P w.Ann
def zky (P : List Term → Prop) (l : List Factor) : Prop := l.length ≤ 1000000 ∧ ∀ f ∈ l, zha P f.Atom
def fineAnn : Nat → List Term → Prop
  | 0, _ => False
  | n + 1, a => a.length ≤ 1000000 ∧ ∀ t ∈ a, zky (fineAnn n) t.Factors
theorem zha.imp {P Q : List Term → Prop} (h : ∀ a, P a → Q a) {x : Atom} (hx : zha P x) : zha Q x := ⟨hx.1, fun a ha => h a (hx.2.1 a ha), fun w hw => ⟨(hx.2.2 w hw).1, h _ (hx.2.2 w hw).2⟩⟩
theorem fineAnn.succ : ∀ (n : Nat) (a : List Term), fineAnn n a → fineAnn (n + 1) a
  | 0, _, h => h.elim
  | n + 1, a, h => ⟨h.1, fun t ht => ⟨(h.2 t ht).1, fun f hf => ((h.2 t ht).2 f hf).imp (fineAnn.succ n)⟩⟩
theorem fineAnn.mono {n m : Nat} {a : List Term} (h : fineAnn n a) (hm : n ≤ m) : fineAnn m a := by
  obtain ⟨k, rfl⟩ := Nat.exists_eq_add_of_le hm
  clear hm
  induction k with
  | zero => exact h
  | succ k ih => exact fineAnn.succ _ _ ih

theorem zbkh : ∀ {l : List Factor}, zs2 l → ∀ x ∈ l, zzl x
  | [], _, x, hx => by cases hx
  | y :: r, h, x, hx => by
    unfold zs2 at h
    rcases List.mem_cons.1 hx with rfl | hx
    · exact h.1
    · exact zbkh h.2 x hx
theorem zbmd : ∀ {l : List Term}, wfAnn l → ∀ x ∈ l, wfTerm x
  | [], _, x, hx => by cases hx
  | y :: r, h, x, hx => by
    unfold wfAnn at h
    rcases List.mem_cons.1 hx with rfl | hx
    · exact h.1
    · exact zbmd h.2 x hx
theorem zboa : ∀ {l : List (List Term)}, wfAnns l → ∀ x ∈ l, wfAnn x ∧ x.length ≤ roomLen
  | [], _, x, hx => by cases hx
  | y :: r, h, x, hx => by
    unfold wfAnns at h
    rcases List.mem_cons.1 hx with rfl | hx
    · exact h.1
    · exact zboa h.2 x hx
theorem z8t : ∀ {l : List Weighted}, wfItems l → ∀ x ∈ l, wf46 x.Value ∧ wfAnn x.Ann ∧ x.Ann.length ≤ roomLen
  | [], _, x, hx => by cases hx
  | y :: r, h, x, hx => by
    unfold wfItems at h
    rcases List.mem_cons.1 hx with rfl | hx
    · have := h.1; unfold wfItem at this; exact ⟨this.1, this.2.1, this.2.2⟩
    · exact z8t h.2 x hx
theorem zbok {t : Term} (h : wfTerm t) : wf2 t.Coeff ∧ zs2 t.Factors ∧ t.Factors.length ≤ roomLen := by
  unfold wfTerm at h; exact ⟨h.1, h.2.1, h.2.2⟩
theorem zbqp {t : Factor} (h : zzl t) : wfAtom t.Atom ∧ wf3 t.Exp := by
  unfold zzl at h; exact h
theorem zbrl {x : Atom} (h : wfAtom x) : (wfAnns x.Args ∧ x.Args.length ≤ roomLen) ∧ (wfItems x.Items ∧ x.Items.length ≤ roomLen) ∧ wf46 x.Bound ∧ wf3 x.Kind ∧ wf25 x.Row ∧ wf3 x.Func ∧ wf3 x.Op := by
  obtain ⟨k, r, a, f, i, o, b⟩ := x; unfold wfAtom at h; exact ⟨h.2.2.1, h.2.2.2.2.1, h.2.2.2.2.2.2, h.1, h.2.1, h.2.2.2.1, h.2.2.2.2.2.1⟩
theorem zbsv {n : Nat} (h : n < 4611686018427387904) : IntKind.i64.wrap (n : Int) = n := wrap_id (by omega) (by omega)
theorem wrap_of {z : Int} (h0 : -4611686018427387904 ≤ z) (h : z < 4611686018427387904) : IntKind.i64.wrap z = z := wrap_id (by omega) (by omega)

mutual
def totAtom : Atom → Nat
  | ⟨_, _, a, _, i, _, b⟩ => i.length + a.length + b.Text.size + totAnns a + zpv i
def zk9 : List Factor → Nat
  | [] => 0
  | ⟨x, _⟩ :: r => totAtom x + zk9 r
def totAnn : List Term → Nat
  | [] => 0
  | ⟨_, fs⟩ :: r => 1 + fs.length + zk9 fs + totAnn r
def totAnns : List (List Term) → Nat
  | [] => 0
  | a :: r => totAnn a + totAnns r
def zpv : List Weighted → Nat
  | [] => 0
  | ⟨v, a⟩ :: r => v.Text.size + totAnn a + zpv r
end
theorem zbrz (x : Atom) : totAtom x = x.Items.length + x.Args.length + x.Bound.Text.size + totAnns x.Args + zpv x.Items := by cases x; rw [totAtom]
theorem zbob (f : Factor) (r : List Factor) : zk9 (f :: r) = totAtom f.Atom + zk9 r := by cases f; rw [zk9]
theorem zbra (t : Term) (r : List Term) : totAnn (t :: r) = 1 + t.Factors.length + zk9 t.Factors + totAnn r := by cases t; rw [totAnn]
theorem zbqh (a : List Term) (r : List (List Term)) : totAnns (a :: r) = totAnn a + totAnns r := by rw [totAnns]
theorem zbp6 (w : Weighted) (r : List Weighted) : zpv (w :: r) = w.Value.Text.size + totAnn w.Ann + zpv r := by cases w; rw [zpv]
theorem zbq5 : totAnns [] = 0 := by rw [totAnns]
theorem zbqz : zpv [] = 0 := by rw [zpv]
theorem zbpb : zk9 [] = 0 := by rw [zk9]
theorem zbro : totAnn [] = 0 := by rw [totAnn]

section
variable (g : List Term → Int → Int → Bool × Int) (a : List Term) (limit d : Nat) (hl : limit ≤ 1000) (hd : d ≤ 100) (B : Nat) (hB : B ≤ 1152921504606846976) (P : List Term → Prop)
include hl hd hB
theorem w14 (x : Atom) (i k : Int) (hlen : x.Args.length ≤ roomLen) (hg : ∀ y ∈ x.Args, ∀ l : Nat, l ≤ 1000 → ∃ w : Nat, g y l d = (true, (w : Int)) ∧ w ≤ B ∧ (w ≤ l → P y ∧ totAnn y ≤ w)) :
    ∀ (fuel j n : Nat), x.Args.length < j + fuel → j ≤ x.Args.length → n ≤ 2305843009213693952 → ∃ n' : Nat, zza g fuel a limit (d + 1 : Nat) n i k j x = (true, (a, (limit : Int), ((d + 1 : Nat) : Int), (n' : Int), i, k, x)) ∧ n ≤ n' ∧ n' ≤ max n (limit + B) ∧ (n' ≤ limit → (∀ y ∈ x.Args.drop j, P y) ∧ n + totAnns (x.Args.drop j) ≤ n')
  | 0, j, n, h1, h2, h3 => by omega
  | fuel + 1, j, n, h1, h2, h3 => by
    show ∃ n' : Nat, (zy7 g a limit (d + 1 : Nat) n i k j x).ev (fun x y => zza g fuel x.1 x.2.1 x.2.2.1 x.2.2.2.1 x.2.2.2.2.1 x.2.2.2.2.2.1 x.2.2.2.2.2.2.2.1 y.1) (fun r => (true, r)) (false, default) = _ ∧ _
    unfold zy7
    have hml : roomLen = 140737488351232 := rfl
    by_cases hj : j < x.Args.length
    · by_cases hn : n ≤ limit
      · have e1 : IntKind.i64.wrap ((limit : Int) - (n : Int)) = ((limit - n : Nat) : Int) := by rw [wrap_of (by omega) (by omega)]; omega
        obtain ⟨w, hw, hwB, hwP⟩ := hg _ (getD_mem hj) (limit - n) (by omega)
        have ed : IntKind.i64.wrap (((d + 1 : Nat) : Int) - 1) = (d : Int) := by rw [wrap_of (by omega) (by omega)]; omega
        simp only [Wy.ev_i, Wy.ev_k, Wy.ev_h, Wy.ev_bn, Wy.ev_d, tT, hj, le_nat, hn, e1, ed, hw]
        have e3 : IntKind.i64.wrap ((n : Int) + (w : Int)) = ((n + w : Nat) : Int) := by rw [wrap_of (by omega) (by omega)]; omega
        rw [e3, wrap_succ (by omega)]
        obtain ⟨n', h4, h5, h6, h7⟩ := w14 x i k hlen hg fuel (j + 1) (n + w) (by omega) (by omega) (by omega)
        refine ⟨n', h4, by omega, by omega, fun hn' => ?_⟩
        obtain ⟨h8, h9⟩ := h7 hn'
        obtain ⟨p1, p2⟩ := hwP (by omega)
        rw [drop_lt hj, zbqh]
        refine ⟨fun y hy => ?_, by omega⟩
        rcases List.mem_cons.1 hy with rfl | hy
        · exact p1
        · exact h8 y hy
      · simp only [Wy.ev_i, Wy.ev_k, Wy.ev_h, Wy.ev_bn, Wy.ev_d, tT, hj, le_nat, hn]
        exact ⟨n, rfl, Nat.le_refl _, by omega, fun h => absurd h hn⟩
    · simp only [Wy.ev_i, Wy.ev_k, Wy.ev_h, Wy.ev_bn, Wy.ev_d, tT, hj]
      exact ⟨n, rfl, Nat.le_refl _, by omega, fun _ => by rw [drop_ge hj, zbq5]; exact ⟨fun y hy => (by cases hy), Nat.le_refl _⟩⟩
theorem w18 (x : Atom) (i k : Int) (hlen : x.Items.length ≤ roomLen) (hg : ∀ y ∈ x.Items, y.Value.Text.size ≤ roomLen ∧ ∀ l : Nat, l ≤ 1000 → ∃ w : Nat, g y.Ann l d = (true, (w : Int)) ∧ w ≤ B ∧ (w ≤ l → P y.Ann ∧ totAnn y.Ann ≤ w)) :
    ∀ (fuel j n : Nat), x.Items.length < j + fuel → j ≤ x.Items.length → n ≤ 2305843009213693952 → ∃ n' : Nat, zzk g fuel a limit (d + 1 : Nat) n i k j x = (true, (a, (limit : Int), ((d + 1 : Nat) : Int), (n' : Int), i, k)) ∧ n ≤ n' ∧ n' ≤ max n (limit + roomLen + B) ∧ (n' ≤ limit → (∀ y ∈ x.Items.drop j, y.Value.Text.size ≤ 1000 ∧ P y.Ann) ∧ n + zpv (x.Items.drop j) ≤ n')
  | 0, j, n, h1, h2, h3 => by omega
  | fuel + 1, j, n, h1, h2, h3 => by
    show ∃ n' : Nat, (zzv g a limit (d + 1 : Nat) n i k j x).ev (fun x y => zzk g fuel x.1 x.2.1 x.2.2.1 x.2.2.2.1 x.2.2.2.2.1 x.2.2.2.2.2.1 x.2.2.2.2.2.2.2.1 y.1) (fun r => (true, r)) (false, default) = _ ∧ _
    unfold zzv
    have hml : roomLen = 140737488351232 := rfl
    by_cases hj : j < x.Items.length
    · by_cases hn : n ≤ limit
      · have e1 : IntKind.i64.wrap ((limit : Int) - (n : Int)) = ((limit - n : Nat) : Int) := by rw [wrap_of (by omega) (by omega)]; omega
        obtain ⟨ht, hgy⟩ := hg _ (getD_mem hj)
        obtain ⟨w, hw, hwB, hwP⟩ := hgy (limit - n) (by omega)
        have ed : IntKind.i64.wrap (((d + 1 : Nat) : Int) - 1) = (d : Int) := by rw [wrap_of (by omega) (by omega)]; omega
        simp only [Wy.ev_i, Wy.ev_k, Wy.ev_h, Wy.ev_bn, Wy.ev_d, tT, hj, le_nat, hn, e1, ed, hw]
        generalize hsz : (x.Items.getD j default).Value.Text.size = sz at *
        have e3 : IntKind.i64.wrap (IntKind.i64.wrap ((n : Int) + (sz : Int)) + (w : Int)) = ((n + sz + w : Nat) : Int) := by rw [wrap_of (z := (n : Int) + (sz : Int)) (by omega) (by omega), wrap_of (by omega) (by omega)]; omega
        rw [e3, wrap_succ (by omega)]
        obtain ⟨n', h4, h5, h6, h7⟩ := w18 x i k hlen hg fuel (j + 1) (n + sz + w) (by omega) (by omega) (by omega)
        refine ⟨n', h4, by omega, by omega, fun hn' => ?_⟩
        obtain ⟨h8, h9⟩ := h7 hn'
        obtain ⟨p1, p2⟩ := hwP (by omega)
        rw [drop_lt hj, zbp6]
        refine ⟨fun y hy => ?_, by omega⟩
        rcases List.mem_cons.1 hy with rfl | hy
        · exact ⟨by omega, p1⟩
        · exact h8 y hy
      · simp only [Wy.ev_i, Wy.ev_k, Wy.ev_h, Wy.ev_bn, Wy.ev_d, tT, hj, le_nat, hn]
        exact ⟨n, rfl, Nat.le_refl _, by omega, fun h => absurd h hn⟩
    · simp only [Wy.ev_i, Wy.ev_k, Wy.ev_h, Wy.ev_bn, Wy.ev_d, tT, hj]
      exact ⟨n, rfl, Nat.le_refl _, by omega, fun _ => by rw [drop_ge hj, zbqz]; exact ⟨fun y hy => (by cases hy), Nat.le_refl _⟩⟩
theorem w9 (i : Nat) (hi : i < a.length) (hla : (a.getD i default).Factors.length ≤ roomLen) (hg : ∀ f ∈ (a.getD i default).Factors, f.Atom.Args.length ≤ roomLen ∧ f.Atom.Items.length ≤ roomLen ∧ f.Atom.Bound.Text.size ≤ roomLen ∧ (∀ y ∈ f.Atom.Args, ∀ l : Nat, l ≤ 1000 → ∃ w : Nat, g y l d = (true, (w : Int)) ∧ w ≤ B ∧ (w ≤ l → P y ∧ totAnn y ≤ w)) ∧
      ∀ y ∈ f.Atom.Items, y.Value.Text.size ≤ roomLen ∧ ∀ l : Nat, l ≤ 1000 → ∃ w : Nat, g y.Ann l d = (true, (w : Int)) ∧ w ≤ B ∧ (w ≤ l → P y.Ann ∧ totAnn y.Ann ≤ w)) :
    ∀ (fuel k n : Nat), (a.getD i default).Factors.length < k + fuel → k ≤ (a.getD i default).Factors.length → n ≤ 2305843009213693952 → ∃ n' : Nat, z1p g fuel a limit (d + 1 : Nat) n i k = (true, (a, (limit : Int), ((d + 1 : Nat) : Int), (n' : Int), (i : Int))) ∧ n ≤ n' ∧ n' ≤ max n (limit + 4 * roomLen + B) ∧
      (n' ≤ limit → (∀ f ∈ (a.getD i default).Factors.drop k, (f.Atom.Args.length ≤ 1000 ∧ f.Atom.Items.length ≤ 1000 ∧ f.Atom.Bound.Text.size ≤ 1000) ∧ (∀ y ∈ f.Atom.Args, P y) ∧ ∀ y ∈ f.Atom.Items, y.Value.Text.size ≤ 1000 ∧ P y.Ann) ∧ n + zk9 ((a.getD i default).Factors.drop k) ≤ n')
  | 0, k, n, h1, h2, h3 => by omega
  | fuel + 1, k, n, h1, h2, h3 => by
    show ∃ n' : Nat, (z1i g a limit (d + 1 : Nat) n i k).ev (fun x y => z1p g fuel x.1 x.2.1 x.2.2.1 x.2.2.2.1 x.2.2.2.2.1 x.2.2.2.2.2.1) (fun r => (true, r)) (false, default) = _ ∧ _
    unfold z1i
    have hml : roomLen = 140737488351232 := rfl
    by_cases hk : k < (a.getD i default).Factors.length
    · by_cases hn : n ≤ limit
      · simp only [Wy.ev_i, Wy.ev_k, Wy.ev_h, Wy.ev_bn, Wy.ev_d, tT, hi, hk, le_nat, hn, Atom.eta]
        obtain ⟨ha1, ha2, ha3, hgA, hgI⟩ := hg _ (getD_mem hk)
        generalize hf : ((a.getD i default).Factors.getD k default) = f at *
        have e0 : IntKind.i64.wrap (IntKind.i64.wrap (IntKind.i64.wrap ((n : Int) + (f.Atom.Items.length : Int)) + (f.Atom.Args.length : Int)) + (f.Atom.Bound.Text.size : Int)) = ((n + f.Atom.Items.length + f.Atom.Args.length + f.Atom.Bound.Text.size : Nat) : Int) := by
          rw [wrap_of (z := (n : Int) + (f.Atom.Items.length : Int)) (by omega) (by omega), wrap_of (z := (n : Int) + (f.Atom.Items.length : Int) + (f.Atom.Args.length : Int)) (by omega) (by omega), wrap_of (by omega) (by omega)]; omega
        rw [e0]
        obtain ⟨n1, q1, q2, q3, q4⟩ := w14 g a limit d hl hd B hB P f.Atom i k ha1 hgA (a.length + limit + (d + 1) + ((n + f.Atom.Items.length + f.Atom.Args.length + f.Atom.Bound.Text.size : Nat) : Int).toNat + i + k + Int.toNat 0 + 1 + f.Atom.Args.length + f.Atom.Items.length) 0 (n + f.Atom.Items.length + f.Atom.Args.length + f.Atom.Bound.Text.size) (by omega) (by omega) (by omega)
        rw [show ((0 : Nat) : Int) = (0 : Int) from rfl] at q1
        rw [q1]
        simp only [cond_true, Atom.eta, Int.toNat_natCast]
        obtain ⟨n2, r1, r2, r3, r4⟩ := w18 g a limit d hl hd B hB P f.Atom i k ha2 hgI (a.length + limit + (d + 1) + n1 + i + k + Int.toNat 0 + 1 + f.Atom.Args.length + f.Atom.Items.length) 0 n1 (by omega) (by omega) (by omega)
        rw [show ((0 : Nat) : Int) = (0 : Int) from rfl] at r1
        rw [r1]
        simp only [cond_true]
        rw [wrap_succ (by omega)]
        obtain ⟨n', h4, h5, h6, h7⟩ := w9 i hi hla hg fuel (k + 1) n2 (by omega) (by omega) (by omega)
        refine ⟨n', h4, by omega, by omega, fun hn' => ?_⟩
        obtain ⟨h8, h9⟩ := h7 hn'
        obtain ⟨q5, q6⟩ := q4 (by omega)
        obtain ⟨r5, r6⟩ := r4 (by omega)
        rw [List.drop_zero] at q5 q6 r5 r6
        rw [drop_lt hk, zbob, hf, zbrz]
        refine ⟨fun y hy => ?_, by omega⟩
        rcases List.mem_cons.1 hy with rfl | hy
        · exact ⟨⟨by omega, by omega, by omega⟩, q5, r5⟩
        · exact h8 y hy
      · simp only [Wy.ev_i, Wy.ev_k, Wy.ev_h, Wy.ev_bn, Wy.ev_d, tT, hi, hk, le_nat, hn]
        exact ⟨n, rfl, Nat.le_refl _, by omega, fun h => absurd h hn⟩
    · simp only [Wy.ev_i, Wy.ev_k, Wy.ev_h, Wy.ev_bn, Wy.ev_d, tT, hi, hk]
      exact ⟨n, rfl, Nat.le_refl _, by omega, fun _ => by rw [drop_ge hk, zbpb]; exact ⟨fun y hy => (by cases hy), Nat.le_refl _⟩⟩
theorem w5 (hla : ∀ t ∈ a, t.Factors.length ≤ roomLen) (hg : ∀ t ∈ a, ∀ f ∈ t.Factors, f.Atom.Args.length ≤ roomLen ∧ f.Atom.Items.length ≤ roomLen ∧ f.Atom.Bound.Text.size ≤ roomLen ∧ (∀ y ∈ f.Atom.Args, ∀ l : Nat, l ≤ 1000 → ∃ w : Nat, g y l d = (true, (w : Int)) ∧ w ≤ B ∧ (w ≤ l → P y ∧ totAnn y ≤ w)) ∧
      ∀ y ∈ f.Atom.Items, y.Value.Text.size ≤ roomLen ∧ ∀ l : Nat, l ≤ 1000 → ∃ w : Nat, g y.Ann l d = (true, (w : Int)) ∧ w ≤ B ∧ (w ≤ l → P y.Ann ∧ totAnn y.Ann ≤ w)) (hlen : a.length ≤ roomLen) :
    ∀ (fuel i n : Nat), a.length < i + fuel → i ≤ a.length → n ≤ 2305843009213693952 → ∃ n' : Nat, z1n g fuel a limit (d + 1 : Nat) n i = (true, (n' : Int)) ∧ n ≤ n' ∧ n' ≤ max n (limit + 6 * roomLen + B) ∧
      (n' ≤ limit → (n + (a.length - i) ≤ n' ∧ n + totAnn (a.drop i) ≤ n') ∧ ∀ t ∈ a.drop i, t.Factors.length ≤ 1000 ∧ ∀ f ∈ t.Factors, (f.Atom.Args.length ≤ 1000 ∧ f.Atom.Items.length ≤ 1000 ∧ f.Atom.Bound.Text.size ≤ 1000) ∧ (∀ y ∈ f.Atom.Args, P y) ∧ ∀ y ∈ f.Atom.Items, y.Value.Text.size ≤ 1000 ∧ P y.Ann)
  | 0, i, n, h1, h2, h3 => by omega
  | fuel + 1, i, n, h1, h2, h3 => by
    show ∃ n' : Nat, (z1b g a limit (d + 1 : Nat) n i).ev (fun x y => z1n g fuel x.1 x.2.1 x.2.2.1 x.2.2.2.1 x.2.2.2.2.1) (fun r => (true, r)) (false, default) = _ ∧ _
    unfold z1b
    have hml : roomLen = 140737488351232 := rfl
    by_cases hi : i < a.length
    · by_cases hn : n ≤ limit
      · simp only [Wy.ev_i, Wy.ev_k, Wy.ev_h, Wy.ev_bn, Wy.ev_d, tT, hi, le_nat, hn]
        have hla' := hla _ (getD_mem hi)
        have e0 : IntKind.i64.wrap (IntKind.i64.wrap ((n : Int) + 1) + ((a.getD i default).Factors.length : Int)) = ((n + 1 + (a.getD i default).Factors.length : Nat) : Int) := by
          rw [wrap_succ (by omega), wrap_of (by omega) (by omega)]; omega
        rw [e0]
        obtain ⟨n1, q1, q2, q3, q4⟩ := w9 g a limit d hl hd B hB P i hi hla' (hg _ (getD_mem hi)) (a.length + limit + (d + 1) + ((n + 1 + (a.getD i default).Factors.length : Nat) : Int).toNat + i + Int.toNat 0 + 1) 0 (n + 1 + (a.getD i default).Factors.length) (by omega) (by omega) (by omega)
        rw [show ((0 : Nat) : Int) = (0 : Int) from rfl] at q1
        rw [q1]
        simp only [cond_true]
        rw [wrap_succ (by omega)]
        obtain ⟨n', h4, h5, h6, h7⟩ := w5 hla hg hlen fuel (i + 1) n1 (by omega) (by omega) (by omega)
        refine ⟨n', h4, by omega, by omega, fun hn' => ?_⟩
        obtain ⟨⟨h8, h10⟩, h9⟩ := h7 hn'
        obtain ⟨q5, q6⟩ := q4 (by omega)
        rw [List.drop_zero] at q5 q6
        rw [drop_lt hi, zbra]
        refine ⟨⟨by omega, by omega⟩, fun y hy => ?_⟩
        rcases List.mem_cons.1 hy with rfl | hy
        · exact ⟨by omega, q5⟩
        · exact h9 y hy
      · simp only [Wy.ev_i, Wy.ev_k, Wy.ev_h, Wy.ev_bn, Wy.ev_d, tT, hi, le_nat, hn]
        exact ⟨n, rfl, Nat.le_refl _, by omega, fun h => absurd h hn⟩
    · simp only [Wy.ev_i, Wy.ev_k, Wy.ev_h, Wy.ev_bn, Wy.ev_d, tT, hi]
      exact ⟨n, rfl, Nat.le_refl _, by omega, fun _ => by rw [drop_ge hi, zbro]; exact ⟨⟨by omega, Nat.le_refl _⟩, fun y hy => (by cases hy)⟩⟩
end
theorem zbpp : ∀ (d N : Nat), d < N → d ≤ 12 → ∀ (l : Nat), l ≤ 1000 → ∀ a, wfAnn a → a.length ≤ roomLen → ∃ w : Nat, zq6 N a l d = (true, (w : Int)) ∧ w ≤ (d + 1) * 4503599627370496 ∧ (w ≤ l → fineAnn d a ∧ totAnn a ≤ w)
  | _, 0, h, _, _, _, _, _, _ => by omega
  | 0, N + 1, _, _, l, hl, a, hw, hlen => by
    rw [zbby]
    unfold zu4 zv6
    refine ⟨l + 1, ?_, by omega, fun h => by omega⟩
    simp only [Wy.fin_i, Wy.fin_k]
    rw [wrap_succ (by omega)]; rfl
  | d + 1, N + 1, hN, hd, l, hl, a, hw, hlen => by
    rw [zbby]
    unfold zu4 zv6
    have hml : roomLen = 140737488351232 := rfl
    have ih := fun y (h1 : wfAnn y) (h2 : y.length ≤ roomLen) l hl => zbpp d N (by omega) (by omega) l hl y h1 h2
    have e0 : (((d + 1 : Nat) : Int) == (0 : Int)) = false := by
      rw [beq_eq_false_iff_ne]; omega
    obtain ⟨n', h1, h2, h3, h4⟩ := w5 (zq6 N) a l d hl (by omega) ((d + 1) * 4503599627370496) (by omega) (fineAnn d) (fun t ht => (zbok (zbmd hw t ht)).2.2) (fun t ht f hf => by
      have hx := zbrl (zbqp (zbkh (zbok (zbmd hw t ht)).2.1 f hf)).1
      refine ⟨hx.1.2, hx.2.1.2, hx.2.2.1.2.2, fun y hy l hl => ?_, fun y hy => ?_⟩
      · have := zboa hx.1.1 y hy
        exact ih y this.1 this.2 l hl
      · have := z8t hx.2.1.1 y hy
        exact ⟨this.1.2.2, fun l hl => ih y.Ann this.2.1 this.2.2 l hl⟩) hlen (a.length + l + (d + 1) + Int.toNat 0 + Int.toNat 0 + 1) 0 0 (by omega) (by omega) (by omega)
    rw [show ((0 : Nat) : Int) = (0 : Int) from rfl] at h1
    refine ⟨n', ?_, by omega, fun hn => ?_⟩
    · simp only [Wy.fin_i, Wy.fin_k, Wy.fin_bn, e0, cond_false, Int.toNat_natCast, h1, cond_true]
    · obtain ⟨⟨h5, h12⟩, h6⟩ := h4 hn
      rw [List.drop_zero] at h12
      refine ⟨⟨by omega, fun t ht => ?_⟩, by omega⟩
      obtain ⟨h7, h8⟩ := h6 t (by simpa using ht)
      refine ⟨by omega, fun f hf => ?_⟩
      obtain ⟨h9, h10, h11⟩ := h8 f hf
      exact ⟨⟨by omega, by omega, by omega⟩, h10, fun w hw => ⟨by have := (h11 w hw).1; omega, (h11 w hw).2⟩⟩
theorem zbqi (limit : Nat) (hl : limit ≤ 1000) (l : List (List Term)) (hll : l.length ≤ 1000) (hw : ∀ a ∈ l, wfAnn a ∧ a.length ≤ roomLen) : ∀ (n i : Nat), l.length < i + n → i ≤ l.length → ∃ r, zbes n limit l i = (true, r) ∧ ((r = .inl false) ∨ (r = .inr () ∧ ∀ a ∈ l.drop i, fineAnn 12 a ∧ totAnn a ≤ limit))
  | 0, i, h1, h2 => by omega
  | n + 1, i, h1, h2 => by
    show ∃ r, (zbej limit l i).ev (fun x y => zbes n x.1 x.2.1 x.2.2.1) (fun r => (true, r)) (false, .inl default) = (true, r) ∧ _
    unfold zbej
    by_cases hi : i < l.length
    · obtain ⟨w, q1, q2, q3⟩ := zbpp 12 1000 (by omega) (by omega) limit hl _ (hw _ (getD_mem hi)).1 (hw _ (getD_mem hi)).2
      have q1' : zbei (l.getD i default) (limit : Int) 12 = (true, (w : Int)) := q1
      simp only [Wy.ev_i, Wy.ev_k, Wy.ev_h, Wy.ev_bn, Wy.ev_d, tT, hi, q1', gt_nat]
      by_cases hg : limit < w
      · simp only [hg, decide_true, cond_true]
        exact ⟨_, rfl, .inl rfl⟩
      · simp only [hg, decide_false, cond_false]
        rw [wrap_succ (by omega)]
        obtain ⟨r, h3, h4⟩ := zbqi limit hl l hll hw n (i + 1) (by omega) (by omega)
        refine ⟨r, h3, ?_⟩
        rcases h4 with h4 | ⟨h4, h5⟩
        · exact .inl h4
        · refine .inr ⟨h4, fun a ha => ?_⟩
          rw [drop_lt hi] at ha
          rcases List.mem_cons.1 ha with rfl | ha
          · exact ⟨(q3 (by omega)).1, by have := (q3 (by omega)).2; omega⟩
          · exact h5 a ha
    · simp only [Wy.ev_i, Wy.ev_k, Wy.ev_h, Wy.ev_bn, Wy.ev_d, tT, hi]
      exact ⟨_, rfl, .inr ⟨rfl, fun a ha => by rw [drop_ge hi] at ha; cases ha⟩⟩
theorem Few_ok (limit : Nat) (hl : limit ≤ 1000) (l : List (List Term)) (hll : l.length ≤ 1000) (hw : ∀ a ∈ l, wfAnn a ∧ a.length ≤ roomLen) : ∃ b, z3w limit l = (true, b) ∧ (b = true → ∀ a ∈ l, fineAnn 12 a ∧ totAnn a ≤ limit) := by
  unfold z3w zbgz
  obtain ⟨r, h1, h2⟩ := zbqi limit hl l hll hw (limit + l.length + Int.toNat 0 + 1) 0 (by omega) (by omega)
  rw [show ((0 : Nat) : Int) = (0 : Int) from rfl] at h1
  rw [Wy.fin_bn]
  simp only [Int.toNat_natCast, h1, cond_true]
  rcases h2 with rfl | ⟨rfl, h2⟩
  · exact ⟨false, rfl, fun h => by cases h⟩
  · exact ⟨true, rfl, fun _ a ha => h2 a (by simpa using ha)⟩

mutual
def sizAtom : Atom → Nat
  | ⟨_, _, a, _, i, _, _⟩ => sizAnns a + zec i
def zc0 : List Factor → Nat
  | [] => 0
  | ⟨x, _⟩ :: r => sizAtom x + zc0 r
def sizAnn : List Term → Nat
  | [] => 0
  | ⟨_, fs⟩ :: r => 1 + fs.length + zc0 fs + sizAnn r
def sizAnns : List (List Term) → Nat
  | [] => 0
  | a :: r => sizAnn a + sizAnns r
def zec : List Weighted → Nat
  | [] => 0
  | ⟨_, a⟩ :: r => 1 + sizAnn a + zec r
end
theorem zn9 (x : Atom) : sizAtom x = sizAnns x.Args + zec x.Items := by cases x; rw [sizAtom]
theorem zkn (f : Factor) (r : List Factor) : zc0 (f :: r) = sizAtom f.Atom + zc0 r := by cases f; rw [zc0]
theorem ztm (t : Term) (r : List Term) : sizAnn (t :: r) = 1 + t.Factors.length + zc0 t.Factors + sizAnn r := by cases t; rw [sizAnn]
theorem zrs (a : List Term) (r : List (List Term)) : sizAnns (a :: r) = sizAnn a + sizAnns r := by rw [sizAnns]
theorem zmy (w : Weighted) (r : List Weighted) : zec (w :: r) = 1 + sizAnn w.Ann + zec r := by cases w; rw [zec]
theorem zbm2 : sizAnns [] = 0 := by rw [sizAnns]
theorem zbl2 : zec [] = 0 := by rw [zec]
theorem z8e : zc0 [] = 0 := by rw [zc0]
theorem zbn0 : sizAnn [] = 0 := by rw [sizAnn]
theorem zbow (l : List (List Term)) : ∀ n : Nat, l.foldl (fun s t => s + sizAnn t) n = n + sizAnns l := by
  induction l with
  | nil => intro n; rw [zbm2]; rfl
  | cons a r ih => intro n; rw [List.foldl_cons, ih, zrs]; omega
theorem zbna (l : List Weighted) : ∀ n : Nat, l.foldl (fun s t => s + 1 + sizAnn t.Ann) n = n + zec l := by
  induction l with
  | nil => intro n; rw [zbl2]; rfl
  | cons a r ih => intro n; rw [List.foldl_cons, ih, zmy]; omega
theorem zbp8 (l : List Factor) : ∀ n : Nat, l.foldl (fun s t => s + sizAtom t.Atom) n = n + zc0 l := by
  induction l with
  | nil => intro n; rw [z8e]; rfl
  | cons a r ih => intro n; rw [List.foldl_cons, ih, zkn]; omega
theorem zbpx (l : List Term) : ∀ n : Nat, l.foldl (fun s t => s + 1 + t.Factors.length + zc0 t.Factors) n = n + sizAnn l := by
  induction l with
  | nil => intro n; rw [zbn0]; rfl
  | cons a r ih => intro n; rw [List.foldl_cons, ih, ztm]; omega
theorem zte {n m : Nat} (h : n + m ≤ 4611686018427387904) : IntKind.i64.wrap ((n : Int) + (m : Int)) = ((n + m : Nat) : Int) := by
  rw [wrap_id (by omega) (by omega)]; omega
theorem wrap_le {i : Nat} (h : i < 4611686018427387904) : IntKind.i64.wrap ((i : Int) + 1) = ((i + 1 : Nat) : Int) := wrap_succ h

section
variable (g : List Term → Bool × Int)
theorem Size_10 (l : List (List Term)) (hl : l.length ≤ 1000000) (hg : ∀ y ∈ l, g y = (true, (sizAnn y : Int))) (t12 : List Term) (t13 t14 : Int) (t25 : List Factor) (t26 t27 : Int) (f : Factor) (fuel n : Nat) (hf : l.length < fuel) (hn : n + sizAnns l ≤ 4611686018427387904) :
    z3q g fuel n t12 t13 t14 t25 t26 t27 l l.length 0 f = (true, (((n + sizAnns l : Nat) : Int), t12, t13, t14, t25, t26, t27, f)) := by
  have h := iter_list (W := zpc g) (z := default) (l := l) (fun i (n : Nat) => ((n : Int), (), t12, t13, t14, t25, t26, t27, l, (l.length : Int), (i : Int), ())) (fun _ _ => (f, ())) (fun y n => .inl (n + sizAnn y)) (fun n => ((n : Int), t12, t13, t14, t25, t26, t27, f)) (fun i n => n + sizAnns (l.drop i) ≤ 4611686018427387904)
    (fun i n hi hI => .inl ⟨_, rfl, by rw [drop_lt hi, zrs] at hI; omega, fun H K D => by
      rw [drop_lt hi, zrs] at hI
      show (zlg g n t12 t13 t14 t25 t26 t27 l l.length i f).ev H K D = _
      unfold zlg
      simp only [Wy.ev_i, Wy.ev_k, Wy.ev_h, Wy.ev_bn, Wy.ev_d, tT, hi, hg _ (getD_mem hi)]
      rw [zte (by omega), wrap_le (by omega)]⟩)
    (fun n hI H K D => by
      show (zlg g n t12 t13 t14 t25 t26 t27 l l.length l.length f).ev H K D = _
      unfold zlg
      simp only [Wy.ev_i, Wy.ev_k, tT, Nat.lt_irrefl]) fuel 0 n (by omega) (Nat.zero_le _) (by simpa using hn)
  rw [List.drop_zero, runL_fold, zbow] at h
  exact h
theorem Size_15 (l : List Weighted) (hl : l.length ≤ 1000000) (hg : ∀ y ∈ l, g y.Ann = (true, (sizAnn y.Ann : Int))) (t12 : List Term) (t13 t14 : Int) (t25 : List Factor) (t26 t27 : Int) (fuel n : Nat) (hf : l.length < fuel) (hn : n + zec l ≤ 4611686018427387904) :
    z35 g fuel n t12 t13 t14 t25 t26 t27 l l.length 0 = (true, (((n + zec l : Nat) : Int), t12, t13, t14, t25, t26, t27)) := by
  have h := iter_list (W := zph g) (z := default) (l := l) (fun i (n : Nat) => ((n : Int), t12, t13, t14, t25, t26, t27, l, (l.length : Int), (i : Int), ())) (fun _ _ => ()) (fun y n => .inl (n + 1 + sizAnn y.Ann)) (fun n => ((n : Int), t12, t13, t14, t25, t26, t27)) (fun i n => n + zec (l.drop i) ≤ 4611686018427387904)
    (fun i n hi hI => .inl ⟨_, rfl, by rw [drop_lt hi, zmy] at hI; omega, fun H K D => by
      rw [drop_lt hi, zmy] at hI
      show (zlk g n t12 t13 t14 t25 t26 t27 l l.length i).ev H K D = _
      unfold zlk
      simp only [Wy.ev_i, Wy.ev_k, Wy.ev_h, Wy.ev_bn, Wy.ev_d, tT, hi, hg _ (getD_mem hi)]
      rw [wrap_le (by omega), show (1 : Int) = ((1 : Nat) : Int) from rfl, zte (by omega), zte (by omega), ← Nat.add_assoc]⟩)
    (fun n hI H K D => by
      show (zlk g n t12 t13 t14 t25 t26 t27 l l.length l.length).ev H K D = _
      unfold zlk
      simp only [Wy.ev_i, Wy.ev_k, tT, Nat.lt_irrefl]) fuel 0 n (by omega) (Nat.zero_le _) (by simpa using hn)
  rw [List.drop_zero, runL_fold, zbna] at h
  exact h
theorem Size_7 (l : List Factor) (hl : l.length ≤ 1000000) (hg : ∀ f ∈ l, (f.Atom.Args.length ≤ 1000000 ∧ f.Atom.Items.length ≤ 1000000) ∧ (∀ y ∈ f.Atom.Args, g y = (true, (sizAnn y : Int))) ∧ ∀ y ∈ f.Atom.Items, g y.Ann = (true, (sizAnn y.Ann : Int))) (t12 : List Term) (t13 t14 : Int) (fuel n : Nat) (hf : l.length < fuel) (hn : n + zc0 l ≤ 4611686018427387904) :
    z41 g fuel n t12 t13 t14 l l.length 0 = (true, (((n + zc0 l : Nat) : Int), t12, t13, t14)) := by
  have h := iter_list (W := zql g) (z := default) (l := l) (fun i (n : Nat) => ((n : Int), t12, t13, t14, l, (l.length : Int), (i : Int), ())) (fun _ _ => ()) (fun y n => .inl (n + sizAtom y.Atom)) (fun n => ((n : Int), t12, t13, t14)) (fun i n => n + zc0 (l.drop i) ≤ 4611686018427387904)
    (fun i n hi hI => .inl ⟨_, rfl, by rw [drop_lt hi, zkn] at hI; omega, fun H K D => by
      rw [drop_lt hi, zkn, zn9] at hI
      obtain ⟨⟨h1, h2⟩, h3, h4⟩ := hg _ (getD_mem hi)
      show (zmc g n t12 t13 t14 l l.length i).ev H K D = _
      unfold zmc
      simp only [Wy.ev_i, Wy.ev_k, Wy.ev_h, Wy.ev_bn, Wy.ev_d, tT, hi, Atom.eta]
      rw [Size_10 g _ h1 h3 _ _ _ _ _ _ _ _ _ (by omega) (by omega)]
      simp only [cond_true, Int.toNat_natCast]
      rw [Size_15 g _ h2 h4 _ _ _ _ _ _ _ _ (by omega) (by omega)]
      simp only [cond_true]
      rw [wrap_le (by omega), zn9, Nat.add_assoc]⟩)
    (fun n hI H K D => by
      show (zmc g n t12 t13 t14 l l.length l.length).ev H K D = _
      unfold zmc
      simp only [Wy.ev_i, Wy.ev_k, tT, Nat.lt_irrefl]) fuel 0 n (by omega) (Nat.zero_le _) (by simpa using hn)
  rw [List.drop_zero, runL_fold, zbp8] at h
  exact h
theorem Size_3 (l : List Term) (hl : l.length ≤ 1000000) (hg : ∀ t ∈ l, t.Factors.length ≤ 1000000 ∧ ∀ f ∈ t.Factors, (f.Atom.Args.length ≤ 1000000 ∧ f.Atom.Items.length ≤ 1000000) ∧ (∀ y ∈ f.Atom.Args, g y = (true, (sizAnn y : Int))) ∧ ∀ y ∈ f.Atom.Items, g y.Ann = (true, (sizAnn y.Ann : Int))) (fuel n : Nat) (hf : l.length < fuel) (hn : n + sizAnn l ≤ 4611686018427387904) :
    z54 g fuel n l l.length 0 = (true, ((n + sizAnn l : Nat) : Int)) := by
  have h := iter_list (W := zqm g) (z := default) (l := l) (fun i (n : Nat) => ((n : Int), l, (l.length : Int), (i : Int), ())) (fun _ _ => ()) (fun y n => .inl (n + 1 + y.Factors.length + zc0 y.Factors)) (fun n => (n : Int)) (fun i n => n + sizAnn (l.drop i) ≤ 4611686018427387904)
    (fun i n hi hI => .inl ⟨_, rfl, by rw [drop_lt hi, ztm] at hI; omega, fun H K D => by
      rw [drop_lt hi, ztm] at hI
      obtain ⟨h1, h3⟩ := hg _ (getD_mem hi)
      show (zmi g n l l.length i).ev H K D = _
      unfold zmi
      simp only [Wy.ev_i, Wy.ev_k, Wy.ev_h, Wy.ev_bn, Wy.ev_d, tT, hi, Atom.eta]
      rw [show (1 : Int) = ((1 : Nat) : Int) from rfl, zte (n := 1) (by omega), zte (by omega)]
      rw [Size_7 g _ h1 h3 _ _ _ _ _ (by omega) (by omega)]
      simp only [cond_true]
      rw [show ((1 : Nat) : Int) = (1 : Int) from rfl, wrap_le (by omega), Nat.add_assoc n 1]⟩)
    (fun n hI H K D => by
      show (zmi g n l l.length l.length).ev H K D = _
      unfold zmi
      simp only [Wy.ev_i, Wy.ev_k, tT, Nat.lt_irrefl]) fuel 0 n (by omega) (Nat.zero_le _) (by simpa using hn)
  rw [List.drop_zero, runL_fold, zbpx] at h
  exact h
theorem zbsl (x : Atom) (hl : x.Args.length ≤ 1000000) (hg : ∀ y ∈ x.Args, g y = (true, (sizAnn y : Int))) (a : List Term) (i k : Int) (fuel n : Nat) (hf : x.Args.length < fuel) (hn : n + sizAnns x.Args ≤ 4611686018427387904) :
    zbdm g fuel a n i k 0 x = (true, (a, ((n + sizAnns x.Args : Nat) : Int), i, k, x)) := by
  have h := iter_list (W := zwb g) (z := default) (l := x.Args) (fun j (n : Nat) => (a, (n : Int), i, k, (), (j : Int), ())) (fun _ _ => (x, ())) (fun y n => .inl (n + sizAnn y)) (fun n => (a, (n : Int), i, k, x)) (fun i n => n + sizAnns (x.Args.drop i) ≤ 4611686018427387904)
    (fun j n hi hI => .inl ⟨_, rfl, by rw [drop_lt hi, zrs] at hI; omega, fun H K D => by
      rw [drop_lt hi, zrs] at hI
      show (zrw g a n i k j x).ev H K D = _
      unfold zrw
      simp only [Wy.ev_i, Wy.ev_k, Wy.ev_h, Wy.ev_bn, Wy.ev_d, tT, hi, hg _ (getD_mem hi)]
      rw [zte (by omega), wrap_le (by omega)]⟩)
    (fun n hI H K D => by
      show (zrw g a n i k x.Args.length x).ev H K D = _
      unfold zrw
      simp only [Wy.ev_i, Wy.ev_k, tT, Nat.lt_irrefl]) fuel 0 n (by omega) (Nat.zero_le _) (by simpa using hn)
  rw [List.drop_zero, runL_fold, zbow] at h
  exact h
theorem zbsp (x : Atom) (hl : x.Items.length ≤ 1000000) (hg : ∀ y ∈ x.Items, g y.Ann = (true, (sizAnn y.Ann : Int))) (a : List Term) (i k : Int) (fuel n : Nat) (hf : x.Items.length < fuel) (hn : n + zec x.Items ≤ 4611686018427387904) :
    zbd4 g fuel a n i k 0 x = (true, (a, ((n + zec x.Items : Nat) : Int), i, k)) := by
  have h := iter_list (W := zwf g) (z := default) (l := x.Items) (fun j (n : Nat) => (a, (n : Int), i, k, (), (j : Int), ())) (fun _ _ => (x, ())) (fun y n => .inl (n + 1 + sizAnn y.Ann)) (fun n => (a, (n : Int), i, k)) (fun i n => n + zec (x.Items.drop i) ≤ 4611686018427387904)
    (fun j n hi hI => .inl ⟨_, rfl, by rw [drop_lt hi, zmy] at hI; omega, fun H K D => by
      rw [drop_lt hi, zmy] at hI
      show (zrf g a n i k j x).ev H K D = _
      unfold zrf
      simp only [Wy.ev_i, Wy.ev_k, Wy.ev_h, Wy.ev_bn, Wy.ev_d, tT, hi, hg _ (getD_mem hi)]
      rw [wrap_le (i := j) (by omega), wrap_le (i := n) (by omega), zte (by omega)]⟩)
    (fun n hI H K D => by
      show (zrf g a n i k x.Items.length x).ev H K D = _
      unfold zrf
      simp only [Wy.ev_i, Wy.ev_k, tT, Nat.lt_irrefl]) fuel 0 n (by omega) (Nat.zero_le _) (by simpa using hn)
  rw [List.drop_zero, runL_fold, zbna] at h
  exact h
theorem zbi5 : ∀ (a : List Term) (i : Nat), i < a.length → (a.getD i default).Factors.length ≤ szTs a
  | [], i, h => by simp at h
  | t :: r, 0, h => by
    have : ∀ l : List Factor, l.length ≤ szFs l := fun l => by
      induction l with
      | nil => exact Nat.le_refl _
      | cons f r ih => simp only [szFs, List.length_cons]; omega
    have := this t.Factors
    simp only [szTs, List.getD_cons_zero]; omega
  | t :: r, i + 1, h => by
    have := zbi5 r i (by simpa using h)
    simp only [szTs, List.getD_cons_succ]; omega
theorem foldl_factors' (l : List Factor) : ∀ n : Nat, l.foldl (fun s t => s + 1 + sizAtom t.Atom) n = n + l.length + zc0 l := by
  induction l with
  | nil => intro n; rw [z8e]; rfl
  | cons a r ih => intro n; rw [List.foldl_cons, ih, zkn, List.length_cons]; omega
theorem RSize_7 (a : List Term) (i : Nat) (hi : i < a.length) (hla : a.length ≤ 1000000) (l : List Factor) (el : (a.getD i default).Factors = l) (hl : l.length ≤ 1000000) (hg : ∀ f ∈ l, (f.Atom.Args.length ≤ 1000000 ∧ f.Atom.Items.length ≤ 1000000) ∧ (∀ y ∈ f.Atom.Args, g y = (true, (sizAnn y : Int))) ∧ ∀ y ∈ f.Atom.Items, g y.Ann = (true, (sizAnn y.Ann : Int))) (fuel n : Nat) (hf : l.length < fuel) (hn : n + l.length + zc0 l ≤ 4611686018427387904) :
    zbgg g fuel a n i 0 = (true, (a, ((n + l.length + zc0 l : Nat) : Int), (i : Int))) := by
  have h := iter_list (W := zx0 g) (z := default) (l := l) (fun k (n : Nat) => (a, (n : Int), (i : Int), (k : Int), ())) (fun _ _ => ()) (fun y n => .inl (n + 1 + sizAtom y.Atom)) (fun n => (a, (n : Int), (i : Int))) (fun k n => n + (l.drop k).length + zc0 (l.drop k) ≤ 4611686018427387904)
    (fun k n hk hI => .inl ⟨_, rfl, by rw [drop_lt hk, zkn, List.length_cons] at hI; omega, fun H K D => by
      rw [drop_lt hk, zkn, zn9, List.length_cons] at hI
      obtain ⟨⟨h1, h2⟩, h3, h4⟩ := hg _ (getD_mem hk)
      show (zta g a n i k).ev H K D = _
      unfold zta
      simp only [Wy.ev_i, Wy.ev_k, Wy.ev_h, Wy.ev_bn, Wy.ev_d, tT, hi, el, hk, Atom.eta]
      rw [wrap_le (i := n) (by omega)]
      rw [zbsl g _ h1 h3 _ _ _ _ _ (by omega) (by omega)]
      simp only [cond_true, Int.toNat_natCast, Atom.eta]
      rw [zbsp g _ h2 h4 _ _ _ _ _ (by omega) (by omega)]
      simp only [cond_true]
      rw [wrap_le (by omega), zn9, Nat.add_assoc (n + 1)]⟩)
    (fun n hI H K D => by
      show (zta g a n i l.length).ev H K D = _
      unfold zta
      simp only [Wy.ev_i, Wy.ev_k, tT, hi, el, Nat.lt_irrefl]) fuel 0 n (by omega) (Nat.zero_le _) (by simpa using hn)
  rw [List.drop_zero, runL_fold, foldl_factors'] at h
  exact h
theorem RSize_3 (l : List Term) (hl : l.length ≤ 1000000) (hg : ∀ t ∈ l, t.Factors.length ≤ 1000000 ∧ ∀ f ∈ t.Factors, (f.Atom.Args.length ≤ 1000000 ∧ f.Atom.Items.length ≤ 1000000) ∧ (∀ y ∈ f.Atom.Args, g y = (true, (sizAnn y : Int))) ∧ ∀ y ∈ f.Atom.Items, g y.Ann = (true, (sizAnn y.Ann : Int))) (fuel n : Nat) (hf : l.length < fuel) (hn : n + sizAnn l ≤ 4611686018427387904) :
    zbgh g fuel l n 0 = (true, ((n + sizAnn l : Nat) : Int)) := by
  have h := iter_list (W := zyd g) (z := default) (l := l) (fun i (n : Nat) => (l, (n : Int), (i : Int), ())) (fun _ _ => ()) (fun y n => .inl (n + 1 + y.Factors.length + zc0 y.Factors)) (fun n => (n : Int)) (fun i n => n + sizAnn (l.drop i) ≤ 4611686018427387904)
    (fun i n hi hI => .inl ⟨_, rfl, by rw [drop_lt hi, ztm] at hI; omega, fun H K D => by
      rw [drop_lt hi, ztm] at hI
      obtain ⟨h1, h3⟩ := hg _ (getD_mem hi)
      have hz := zbi5 l i hi
      show (zs1 g l n i).ev H K D = _
      unfold zs1
      simp only [Wy.ev_i, Wy.ev_k, Wy.ev_h, Wy.ev_bn, Wy.ev_d, tT, hi, Atom.eta]
      rw [wrap_le (i := n) (by omega)]
      rw [RSize_7 g l i hi hl _ rfl h1 h3 _ _ (by omega) (by omega)]
      simp only [cond_true]
      rw [wrap_le (by omega)]⟩)
    (fun n hI H K D => by
      show (zs1 g l n l.length).ev H K D = _
      unfold zs1
      simp only [Wy.ev_i, Wy.ev_k, tT, Nat.lt_irrefl]) fuel 0 n (by omega) (Nat.zero_le _) (by simpa using hn)
  rw [List.drop_zero, runL_fold, zbpx] at h
  exact h
end
theorem zbq6 {l : List (List Term)} {y : List Term} (h : y ∈ l) : sizAnn y ≤ sizAnns l := by
  induction l with
  | nil => cases h
  | cons a r ih =>
    rw [zrs]
    rcases List.mem_cons.1 h with rfl | h
    · omega
    · have := ih h; omega
theorem zbqj {l : List Weighted} {y : Weighted} (h : y ∈ l) : sizAnn y.Ann ≤ zec l := by
  induction l with
  | nil => cases h
  | cons a r ih =>
    rw [zmy]
    rcases List.mem_cons.1 h with rfl | h
    · omega
    · have := ih h; omega
theorem zbo5 {l : List Factor} {y : Factor} (h : y ∈ l) : sizAtom y.Atom ≤ zc0 l := by
  induction l with
  | nil => cases h
  | cons a r ih =>
    rw [zkn]
    rcases List.mem_cons.1 h with rfl | h
    · omega
    · have := ih h; omega
theorem zbrr {l : List Term} {y : Term} (h : y ∈ l) : zc0 y.Factors ≤ sizAnn l := by
  induction l with
  | nil => cases h
  | cons a r ih =>
    rw [ztm]
    rcases List.mem_cons.1 h with rfl | h
    · omega
    · have := ih h; omega
theorem siz_sub {a : List Term} {t : Term} {f : Factor} (ht : t ∈ a) (hf : f ∈ t.Factors) : sizAnns f.Atom.Args + zec f.Atom.Items ≤ sizAnn a := by
  have h1 := zbrr ht; have h2 := zbo5 hf; rw [zn9] at h2; omega
theorem zbg7 {d : Nat} {a : List Term} (h : fineAnn (d + 1) a) {t : Term} (ht : t ∈ a) : t.Factors.length ≤ 1000000 ∧ ∀ f ∈ t.Factors, (f.Atom.Args.length ≤ 1000000 ∧ f.Atom.Items.length ≤ 1000000) ∧ (∀ y ∈ f.Atom.Args, fineAnn d y) ∧ ∀ y ∈ f.Atom.Items, fineAnn d y.Ann :=
  ⟨(h.2 t ht).1, fun f hf => have q := (h.2 t ht).2 f hf; ⟨⟨q.1.1, q.1.2.1⟩, q.2.1, fun y hy => (q.2.2 y hy).2⟩⟩
theorem zbnv : ∀ (n d : Nat) (a : List Term), fineAnn d a → d ≤ n → sizAnn a ≤ 4611686018427387904 → zmv n a = (true, (sizAnn a : Int)) ∧ zuo n a = (true, (sizAnn a : Int))
  | n, 0, a, h, hd, hs => h.elim
  | 0, d + 1, a, h, hd, hs => by omega
  | n + 1, d + 1, a, h, hd, hs => by
    have hg := fun y (hy : fineAnn d y) (hs : sizAnn y ≤ 4611686018427387904) => zbnv n d y hy (by omega) hs
    have hsub : ∀ t ∈ a, t.Factors.length ≤ 1000000 ∧ ∀ f ∈ t.Factors, (f.Atom.Args.length ≤ 1000000 ∧ f.Atom.Items.length ≤ 1000000) ∧ (∀ y ∈ f.Atom.Args, fineAnn d y ∧ sizAnn y ≤ 4611686018427387904) ∧ ∀ y ∈ f.Atom.Items, fineAnn d y.Ann ∧ sizAnn y.Ann ≤ 4611686018427387904 := fun t ht => by
      obtain ⟨h1, h2⟩ := zbg7 h ht
      refine ⟨h1, fun f hf => ?_⟩
      obtain ⟨h3, h4, h5⟩ := h2 f hf
      have h6 := siz_sub ht hf
      exact ⟨h3, fun y hy => ⟨h4 y hy, by have := zbq6 hy; omega⟩, fun y hy => ⟨h5 y hy, by have := zbqj hy; omega⟩⟩
    constructor
    · rw [zbjo]
      unfold zt6 zxr
      have h1 := Size_3 (zmv n) a h.1 (fun t ht => ⟨(hsub t ht).1, fun f hf => ⟨((hsub t ht).2 f hf).1, fun y hy => (hg y (((hsub t ht).2 f hf).2.1 y hy).1 (((hsub t ht).2 f hf).2.1 y hy).2).1, fun y hy => (hg _ (((hsub t ht).2 f hf).2.2 y hy).1 (((hsub t ht).2 f hf).2.2 y hy).2).1⟩⟩)
        (Int.toNat 0 + a.length + (Int.ofNat a.length).toNat + Int.toNat 0 + 1) 0 (by omega) (by omega)
      rw [show ((0 : Nat) : Int) = (0 : Int) from rfl, Nat.zero_add] at h1
      rw [Wy.fin_bn, show Int.ofNat a.length = (a.length : Int) from rfl] at *
      rw [h1]; rfl
    · rw [zboj]
      unfold z6f z8p
      have h1 := RSize_3 (zuo n) a h.1 (fun t ht => ⟨(hsub t ht).1, fun f hf => ⟨((hsub t ht).2 f hf).1, fun y hy => (hg y (((hsub t ht).2 f hf).2.1 y hy).1 (((hsub t ht).2 f hf).2.1 y hy).2).2, fun y hy => (hg _ (((hsub t ht).2 f hf).2.2 y hy).1 (((hsub t ht).2 f hf).2.2 y hy).2).2⟩⟩)
        (a.length + Int.toNat 0 + Int.toNat 0 + 1 + szTs a) 0 (by omega) (by omega)
      rw [show ((0 : Nat) : Int) = (0 : Int) from rfl, Nat.zero_add] at h1
      rw [Wy.fin_bn, h1]; rfl

mutual
def nesAtom : Atom → Nat
  | ⟨k, _, a, _, i, _, _⟩ => if k = 0 then 0 else 1 + max (nesAnns a) (zl9 i)
def zeu : List Factor → Nat
  | [] => 0
  | ⟨x, _⟩ :: r => max (nesAtom x) (zeu r)
def nesAnn : List Term → Nat
  | [] => 0
  | ⟨_, fs⟩ :: r => max (zeu fs) (nesAnn r)
def nesAnns : List (List Term) → Nat
  | [] => 0
  | a :: r => max (nesAnn a) (nesAnns r)
def zl9 : List Weighted → Nat
  | [] => 0
  | ⟨_, a⟩ :: r => max (nesAnn a) (zl9 r)
end
theorem z4z (x : Atom) : nesAtom x = if x.Kind = 0 then 0 else 1 + max (nesAnns x.Args) (zl9 x.Items) := by cases x; rw [nesAtom]
theorem z5j (f : Factor) (r : List Factor) : zeu (f :: r) = max (nesAtom f.Atom) (zeu r) := by cases f; rw [zeu]
theorem zbg1 (t : Term) (r : List Term) : nesAnn (t :: r) = max (zeu t.Factors) (nesAnn r) := by cases t; rw [nesAnn]
theorem z6b (a : List Term) (r : List (List Term)) : nesAnns (a :: r) = max (nesAnn a) (nesAnns r) := by rw [nesAnns]
theorem z2v (w : Weighted) (r : List Weighted) : zl9 (w :: r) = max (nesAnn w.Ann) (zl9 r) := by cases w; rw [zl9]
theorem zbg6 : nesAnns [] = 0 := by rw [nesAnns]
theorem zbek : zl9 [] = 0 := by rw [zl9]
theorem zbil : zeu [] = 0 := by rw [zeu]
theorem zbn3 : nesAnn [] = 0 := by rw [nesAnn]
theorem zbrq (l : List (List Term)) : ∀ n : Nat, l.foldl (fun s t => max s (nesAnn t)) n = max n (nesAnns l) := by
  induction l with
  | nil => intro n; rw [zbg6]; exact (Nat.max_zero n).symm
  | cons a r ih => intro n; rw [List.foldl_cons, ih, z6b]; omega
theorem zbq3 (l : List Weighted) : ∀ n : Nat, l.foldl (fun s t => max s (nesAnn t.Ann)) n = max n (zl9 l) := by
  induction l with
  | nil => intro n; rw [zbek]; exact (Nat.max_zero n).symm
  | cons a r ih => intro n; rw [List.foldl_cons, ih, z2v]; omega
theorem zbq7 (l : List (List Term)) : ∀ n : Nat, l.foldl (fun s t => max s (1 + nesAnn t)) (1 + n) = 1 + max n (nesAnns l) := by
  induction l with
  | nil => intro n; rw [zbg6]; simp
  | cons a r ih => intro n; rw [List.foldl_cons, show max (1 + n) (1 + nesAnn a) = 1 + max n (nesAnn a) by omega, ih, z6b]; omega
theorem zbqm (l : List Weighted) : ∀ n : Nat, l.foldl (fun s t => max s (1 + nesAnn t.Ann)) (1 + n) = 1 + max n (zl9 l) := by
  induction l with
  | nil => intro n; rw [zbek]; simp
  | cons a r ih => intro n; rw [List.foldl_cons, show max (1 + n) (1 + nesAnn a.Ann) = 1 + max n (nesAnn a.Ann) by omega, ih, z2v]; omega
theorem zbkf (l : List Factor) : ∀ n : Nat, l.foldl (fun s t => max s (nesAtom t.Atom)) n = max n (zeu l) := by
  induction l with
  | nil => intro n; rw [zbil]; exact (Nat.max_zero n).symm
  | cons a r ih => intro n; rw [List.foldl_cons, ih, z5j]; omega
theorem zbpn (l : List Term) : ∀ n : Nat, l.foldl (fun s t => max s (zeu t.Factors)) n = max n (nesAnn l) := by
  induction l with
  | nil => intro n; rw [zbn3]; exact (Nat.max_zero n).symm
  | cons a r ih => intro n; rw [List.foldl_cons, ih, zbg1]; omega
theorem ifmax (a b : Nat) : (if (a : Int) > (b : Int) then (a : Int) else (b : Int)) = ((max b a : Nat) : Int) := by split <;> omega
theorem zbn6 {d : Nat} : ∀ l : List (List Term), (∀ y ∈ l, nesAnn y ≤ d) → nesAnns l ≤ d := fun l => by
  induction l with
  | nil => intro _; rw [zbg6]; omega
  | cons y r ih => intro hy; rw [z6b]; have h1 := hy y (by simp); have h2 := ih fun z hz => hy z (by simp [hz]); omega
theorem zbnd {d : Nat} : ∀ l : List Weighted, (∀ y ∈ l, nesAnn y.Ann ≤ d) → zl9 l ≤ d := fun l => by
  induction l with
  | nil => intro _; rw [zbek]; omega
  | cons y r ih => intro hy; rw [z2v]; have h1 := hy y (by simp); have h2 := ih fun z hz => hy z (by simp [hz]); omega
theorem zbqc {d : Nat} : ∀ l : List Factor, (∀ y ∈ l, nesAtom y.Atom ≤ d) → zeu l ≤ d := fun l => by
  induction l with
  | nil => intro _; rw [zbil]; omega
  | cons y r ih => intro hy; rw [z5j]; have h1 := hy y (by simp); have h2 := ih fun z hz => hy z (by simp [hz]); omega
theorem zbr5 {d : Nat} : ∀ l : List Term, (∀ y ∈ l, zeu y.Factors ≤ d) → nesAnn l ≤ d := fun l => by
  induction l with
  | nil => intro _; rw [zbn3]; omega
  | cons y r ih => intro hy; rw [zbg1]; have h1 := hy y (by simp); have h2 := ih fun z hz => hy z (by simp [hz]); omega
theorem zbja : ∀ (d : Nat) (a : List Term), fineAnn d a → nesAnn a ≤ d
  | 0, a, h => h.elim
  | d + 1, a, h => zbr5 a fun t ht => zbqc _ fun f hf => by
    obtain ⟨_, h2⟩ := zbg7 h ht
    obtain ⟨_, h4, h5⟩ := h2 f hf
    have q1 := zbn6 f.Atom.Args fun y hy => zbja d y (h4 y hy)
    have q2 := zbnd f.Atom.Items fun y hy => zbja d y.Ann (h5 y hy)
    rw [z4z]; split <;> omega
section
variable (g : List Term → Bool × Int)
theorem Nes_11 (l : List (List Term)) (hl : l.length ≤ 1000000) (hg : ∀ y ∈ l, g y = (true, (nesAnn y : Int))) (nn : Int) (t13 : List Term) (t14 t15 : Int) (t20 : List Factor) (t21 t22 : Int) (f : Factor) (fuel n : Nat) (hf : l.length < fuel) :
    zy5 g fuel nn n t13 t14 t15 t20 t21 t22 l l.length 0 f = (true, (nn, ((max n (nesAnns l) : Nat) : Int), t13, t14, t15, t20, t21, t22, f)) := by
  have h := iter_list (W := zmn g) (z := default) (l := l) (fun i (n : Nat) => (nn, (), (n : Int), t13, t14, t15, t20, t21, t22, l, (l.length : Int), (i : Int), ())) (fun _ _ => (f, ())) (fun y n => .inl (max n (nesAnn y))) (fun n => (nn, (n : Int), t13, t14, t15, t20, t21, t22, f)) (fun i n => True)
    (fun i n hi hI => .inl ⟨_, rfl, trivial, fun H K D => by
      show (ziq g nn n t13 t14 t15 t20 t21 t22 l l.length i f).ev H K D = _
      unfold ziq
      simp only [Wy.ev_i, Wy.ev_k, Wy.ev_h, Wy.ev_bn, Wy.ev_d, tT, hi, hg _ (getD_mem hi), ifmax]
      rw [wrap_le (by omega)]⟩)
    (fun n hI H K D => by
      show (ziq g nn n t13 t14 t15 t20 t21 t22 l l.length l.length f).ev H K D = _
      unfold ziq
      simp only [Wy.ev_i, Wy.ev_k, tT, Nat.lt_irrefl]) fuel 0 n (by omega) (Nat.zero_le _) trivial
  rw [List.drop_zero, runL_fold, zbrq] at h
  exact h
theorem Nes_16 (l : List Weighted) (hl : l.length ≤ 1000000) (hg : ∀ y ∈ l, g y.Ann = (true, (nesAnn y.Ann : Int))) (nn : Int) (t13 : List Term) (t14 t15 : Int) (t20 : List Factor) (t21 t22 : Int) (fuel n : Nat) (hf : l.length < fuel) :
    zy1 g fuel nn n t13 t14 t15 t20 t21 t22 l l.length 0 = (true, (nn, ((max n (zl9 l) : Nat) : Int), t13, t14, t15, t20, t21, t22)) := by
  have h := iter_list (W := zme g) (z := default) (l := l) (fun i (n : Nat) => (nn, (n : Int), t13, t14, t15, t20, t21, t22, l, (l.length : Int), (i : Int), ())) (fun _ _ => ()) (fun y n => .inl (max n (nesAnn y.Ann))) (fun n => (nn, (n : Int), t13, t14, t15, t20, t21, t22)) (fun i n => True)
    (fun i n hi hI => .inl ⟨_, rfl, trivial, fun H K D => by
      show (zih g nn n t13 t14 t15 t20 t21 t22 l l.length i).ev H K D = _
      unfold zih
      simp only [Wy.ev_i, Wy.ev_k, Wy.ev_h, Wy.ev_bn, Wy.ev_d, tT, hi, hg _ (getD_mem hi), ifmax]
      rw [wrap_le (by omega)]⟩)
    (fun n hI H K D => by
      show (zih g nn n t13 t14 t15 t20 t21 t22 l l.length l.length).ev H K D = _
      unfold zih
      simp only [Wy.ev_i, Wy.ev_k, tT, Nat.lt_irrefl]) fuel 0 n (by omega) (Nat.zero_le _) trivial
  rw [List.drop_zero, runL_fold, zbq3] at h
  exact h
def NesG (x : Atom) : Prop := (x.Args.length ≤ 1000000 ∧ x.Items.length ≤ 1000000) ∧ (nesAtom x ≤ 1000 ∧ (∀ y ∈ x.Args, nesAnn y ≤ 1000) ∧ ∀ y ∈ x.Items, nesAnn y.Ann ≤ 1000) ∧ (∀ y ∈ x.Args, g y = (true, (nesAnn y : Int))) ∧ ∀ y ∈ x.Items, g y.Ann = (true, (nesAnn y.Ann : Int))
theorem Nes_6 (l : List Factor) (hl : l.length ≤ 1000000) (hg : ∀ f ∈ l, NesG g f.Atom) (t13 : List Term) (t14 t15 : Int) (fuel n : Nat) (hf : l.length < fuel) :
    z0x g fuel n t13 t14 t15 l l.length 0 = (true, (((max n (zeu l) : Nat) : Int), t13, t14, t15)) := by
  have h := iter_list (W := zng g) (z := default) (l := l) (fun i (n : Nat) => ((n : Int), t13, t14, t15, l, (l.length : Int), (i : Int), ())) (fun _ _ => ()) (fun y n => .inl (max n (nesAtom y.Atom))) (fun n => ((n : Int), t13, t14, t15)) (fun i n => True)
    (fun i n hi hI => .inl ⟨_, rfl, trivial, fun H K D => by
      obtain ⟨⟨h1, h2⟩, ⟨h5, _, _⟩, h3, h4⟩ := hg _ (getD_mem hi)
      show (zj7 g n t13 t14 t15 l l.length i).ev H K D = _
      unfold zj7
      simp only [Wy.ev_i, Wy.ev_k, Wy.ev_h, Wy.ev_bn, Wy.ev_d, tT, hi, Atom.eta]
      generalize l.getD i default = f at *
      rw [z4z] at h5 ⊢
      by_cases hk : f.Atom.Kind = 0
      · have e : (f.Atom.Kind == 0) = true := by simp [hk]
        simp only [e, cond_true]
        rw [if_pos hk, Nat.max_zero, wrap_le (by omega)]
      · have e : (f.Atom.Kind == 0) = false := by simp [hk]
        simp only [e, cond_false]
        rw [if_neg hk] at h5 ⊢
        have q := fun fuel hf => Nes_11 g _ h1 h3 n t13 t14 t15 l l.length i f fuel 0 hf
        rw [Nat.zero_max, show ((0 : Nat) : Int) = (0 : Int) from rfl] at q
        rw [q _ (by omega)]
        simp only [cond_true, Int.toNat_natCast]
        rw [Nes_16 g _ h2 h4 n t13 t14 t15 l l.length i _ _ (by omega)]
        simp only [cond_true]
        rw [wrap_le (by omega), show (1 : Int) = ((1 : Nat) : Int) from rfl, zte (n := 1) (by omega), ifmax]⟩)
    (fun n hI H K D => by
      show (zj7 g n t13 t14 t15 l l.length l.length).ev H K D = _
      unfold zj7
      simp only [Wy.ev_i, Wy.ev_k, tT, Nat.lt_irrefl]) fuel 0 n (by omega) (Nat.zero_le _) trivial
  rw [List.drop_zero, runL_fold, zbkf] at h
  exact h
theorem Nes_3 (l : List Term) (hl : l.length ≤ 1000000) (hg : ∀ t ∈ l, t.Factors.length ≤ 1000000 ∧ ∀ f ∈ t.Factors, NesG g f.Atom) (fuel n : Nat) (hf : l.length < fuel) :
    z0v g fuel n l l.length 0 = (true, ((max n (nesAnn l) : Nat) : Int)) := by
  have h := iter_list (W := znh g) (z := default) (l := l) (fun i (n : Nat) => ((n : Int), l, (l.length : Int), (i : Int), ())) (fun _ _ => ()) (fun y n => .inl (max n (zeu y.Factors))) (fun n => (n : Int)) (fun i n => True)
    (fun i n hi hI => .inl ⟨_, rfl, trivial, fun H K D => by
      obtain ⟨h1, h3⟩ := hg _ (getD_mem hi)
      show (zjo g n l l.length i).ev H K D = _
      unfold zjo
      simp only [Wy.ev_i, Wy.ev_k, Wy.ev_h, Wy.ev_bn, Wy.ev_d, tT, hi, Atom.eta]
      rw [Nes_6 g _ h1 h3 _ _ _ _ _ (by omega)]
      simp only [cond_true]
      rw [wrap_le (by omega)]⟩)
    (fun n hI H K D => by
      show (zjo g n l l.length l.length).ev H K D = _
      unfold zjo
      simp only [Wy.ev_i, Wy.ev_k, tT, Nat.lt_irrefl]) fuel 0 n (by omega) (Nat.zero_le _) trivial
  rw [List.drop_zero, runL_fold, zbpn] at h
  exact h
theorem RNes_12 (x : Atom) (hx : NesG g x) (a : List Term) (most i k : Int) (fuel n : Nat) (hf : x.Args.length < fuel) :
    zxo g fuel a most i k ((1 + n : Nat) : Int) 0 x = (true, (a, most, i, k, ((1 + max n (nesAnns x.Args) : Nat) : Int), x)) := by
  obtain ⟨⟨h1, h2⟩, ⟨h5, h6, h7⟩, h3, h4⟩ := hx
  have h := iter_list (W := zr5 g) (z := default) (l := x.Args) (fun j (n : Nat) => (a, most, i, k, (), (n : Int), (j : Int), ())) (fun _ _ => (x, ())) (fun y n => .inl (max n (1 + nesAnn y))) (fun n => (a, most, i, k, (n : Int), x)) (fun i n => True)
    (fun j n hi hI => .inl ⟨_, rfl, trivial, fun H K D => by
      have h8 := h6 _ (getD_mem hi)
      show (znr g a most i k n j x).ev H K D = _
      unfold znr
      simp only [Wy.ev_i, Wy.ev_k, Wy.ev_h, Wy.ev_bn, Wy.ev_d, tT, hi, h3 _ (getD_mem hi)]
      rw [wrap_le (by omega), show (1 : Int) = ((1 : Nat) : Int) from rfl, zte (n := 1) (by omega), ifmax]⟩)
    (fun n hI H K D => by
      show (znr g a most i k n x.Args.length x).ev H K D = _
      unfold znr
      simp only [Wy.ev_i, Wy.ev_k, tT, Nat.lt_irrefl]) fuel 0 (1 + n) (by omega) (Nat.zero_le _) trivial
  rw [List.drop_zero, runL_fold, zbq7] at h
  exact h
theorem RNes_16 (x : Atom) (hx : NesG g x) (a : List Term) (most i k : Int) (fuel n : Nat) (hf : x.Items.length < fuel) :
    z64 g fuel a most i k ((1 + n : Nat) : Int) 0 x = (true, (a, most, i, k, ((1 + max n (zl9 x.Items) : Nat) : Int))) := by
  obtain ⟨⟨h1, h2⟩, ⟨h5, h6, h7⟩, h3, h4⟩ := hx
  have h := iter_list (W := zr4 g) (z := default) (l := x.Items) (fun j (n : Nat) => (a, most, i, k, (), (n : Int), (j : Int), ())) (fun _ _ => (x, ())) (fun y n => .inl (max n (1 + nesAnn y.Ann))) (fun n => (a, most, i, k, (n : Int))) (fun i n => True)
    (fun j n hi hI => .inl ⟨_, rfl, trivial, fun H K D => by
      have h8 := h7 _ (getD_mem hi)
      show (znp g a most i k n j x).ev H K D = _
      unfold znp
      simp only [Wy.ev_i, Wy.ev_k, Wy.ev_h, Wy.ev_bn, Wy.ev_d, tT, hi, h4 _ (getD_mem hi)]
      rw [wrap_le (by omega), show (1 : Int) = ((1 : Nat) : Int) from rfl, zte (n := 1) (by omega), ifmax]⟩)
    (fun n hI H K D => by
      show (znp g a most i k n x.Items.length x).ev H K D = _
      unfold znp
      simp only [Wy.ev_i, Wy.ev_k, tT, Nat.lt_irrefl]) fuel 0 (1 + n) (by omega) (Nat.zero_le _) trivial
  rw [List.drop_zero, runL_fold, zbqm] at h
  exact h
theorem RNes_12' (x : Atom) (hx : NesG g x) (a : List Term) (most i k : Int) (fuel : Nat) (hf : x.Args.length < fuel) : zxo g fuel a most i k 1 0 x = (true, (a, most, i, k, ((1 + nesAnns x.Args : Nat) : Int), x)) := by
  have h := RNes_12 g x hx a most i k fuel 0 hf
  rw [Nat.zero_max] at h; exact h
theorem RNes_6 (a : List Term) (i : Nat) (hi : i < a.length) (hla : a.length ≤ 1000000) (l : List Factor) (el : (a.getD i default).Factors = l) (hl : l.length ≤ 1000000) (hg : ∀ f ∈ l, NesG g f.Atom) (fuel n : Nat) (hf : l.length < fuel) :
    z90 g fuel a n i 0 = (true, (a, ((max n (zeu l) : Nat) : Int), (i : Int))) := by
  have h := iter_list (W := zs6 g) (z := default) (l := l) (fun k (n : Nat) => (a, (n : Int), (i : Int), (k : Int), ())) (fun _ _ => ()) (fun y n => .inl (max n (nesAtom y.Atom))) (fun n => (a, (n : Int), (i : Int))) (fun k n => True)
    (fun k n hk hI => .inl ⟨_, rfl, trivial, fun H K D => by
      have hx := hg _ (getD_mem hk)
      have h5 := hx.2.1.1
      show (zo5 g a n i k).ev H K D = _
      unfold zo5
      simp only [Wy.ev_i, Wy.ev_k, Wy.ev_h, Wy.ev_bn, Wy.ev_d, tT, hi, el, hk, Atom.eta]
      generalize l.getD k default = f at *
      rw [z4z] at h5 ⊢
      by_cases hz : f.Atom.Kind = 0
      · have e : (f.Atom.Kind == 0) = true := by simp [hz]
        simp only [e, cond_true]
        rw [if_pos hz, Nat.max_zero, wrap_le (by omega)]
      · have e : (f.Atom.Kind == 0) = false := by simp [hz]
        have hx1 := hx.1
        simp only [e, cond_false]
        rw [if_neg hz] at h5 ⊢
        rw [RNes_12' g _ hx _ _ _ _ _ (by omega)]
        simp only [cond_true, Int.toNat_natCast, Atom.eta]
        rw [RNes_16 g _ hx _ _ _ _ _ _ (by omega)]
        simp only [cond_true]
        rw [wrap_le (by omega), ifmax]⟩)
    (fun n hI H K D => by
      show (zo5 g a n i l.length).ev H K D = _
      unfold zo5
      simp only [Wy.ev_i, Wy.ev_k, tT, hi, el, Nat.lt_irrefl]) fuel 0 n (by omega) (Nat.zero_le _) trivial
  rw [List.drop_zero, runL_fold, zbkf] at h
  exact h
theorem RNes_3 (l : List Term) (hl : l.length ≤ 1000000) (hg : ∀ t ∈ l, t.Factors.length ≤ 1000000 ∧ ∀ f ∈ t.Factors, NesG g f.Atom) (fuel n : Nat) (hf : l.length < fuel) :
    z9y g fuel l n 0 = (true, ((max n (nesAnn l) : Nat) : Int)) := by
  have h := iter_list (W := zs0 g) (z := default) (l := l) (fun i (n : Nat) => (l, (n : Int), (i : Int), ())) (fun _ _ => ()) (fun y n => .inl (max n (zeu y.Factors))) (fun n => (n : Int)) (fun i n => True)
    (fun i n hi hI => .inl ⟨_, rfl, trivial, fun H K D => by
      obtain ⟨h1, h3⟩ := hg _ (getD_mem hi)
      have hz := zbi5 l i hi
      show (zo2 g l n i).ev H K D = _
      unfold zo2
      simp only [Wy.ev_i, Wy.ev_k, Wy.ev_h, Wy.ev_bn, Wy.ev_d, tT, hi, Atom.eta]
      rw [RNes_6 g l i hi hl _ rfl h1 h3 _ _ (by omega)]
      simp only [cond_true]
      rw [wrap_le (by omega)]⟩)
    (fun n hI H K D => by
      show (zo2 g l n l.length).ev H K D = _
      unfold zo2
      simp only [Wy.ev_i, Wy.ev_k, tT, Nat.lt_irrefl]) fuel 0 n (by omega) (Nat.zero_le _) trivial
  rw [List.drop_zero, runL_fold, zbpn] at h
  exact h
end
theorem Nes_all : ∀ (n d : Nat) (a : List Term), fineAnn d a → d ≤ n → d ≤ 100 → zgb n a = (true, (nesAnn a : Int)) ∧ zl7 n a = (true, (nesAnn a : Int))
  | n, 0, a, h, hd, hs => h.elim
  | 0, d + 1, a, h, hd, hs => by omega
  | n + 1, d + 1, a, h, hd, hs => by
    have hg := fun y (hy : fineAnn d y) => Nes_all n d y hy (by omega) (by omega)
    have hsub : ∀ t ∈ a, t.Factors.length ≤ 1000000 ∧ ∀ f ∈ t.Factors, NesG (zgb n) f.Atom ∧ NesG (zl7 n) f.Atom := fun t ht => by
      obtain ⟨h1, h2⟩ := zbg7 h ht
      refine ⟨h1, fun f hf => ?_⟩
      obtain ⟨h3, h4, h5⟩ := h2 f hf
      have q1 : ∀ y ∈ f.Atom.Args, nesAnn y ≤ d := fun y hy => zbja d y (h4 y hy)
      have q2 : ∀ y ∈ f.Atom.Items, nesAnn y.Ann ≤ d := fun y hy => zbja d y.Ann (h5 y hy)
      have q3 : nesAtom f.Atom ≤ 1000 := by
        have r1 := zbn6 _ q1; have r2 := zbnd _ q2
        rw [z4z]; split <;> omega
      have q4 : nesAtom f.Atom ≤ 1000 ∧ (∀ y ∈ f.Atom.Args, nesAnn y ≤ 1000) ∧ ∀ y ∈ f.Atom.Items, nesAnn y.Ann ≤ 1000 := ⟨q3, fun y hy => by have := q1 y hy; omega, fun y hy => by have := q2 y hy; omega⟩
      exact ⟨⟨h3, q4, fun y hy => (hg y (h4 y hy)).1, fun y hy => (hg _ (h5 y hy)).1⟩, ⟨h3, q4, fun y hy => (hg y (h4 y hy)).2, fun y hy => (hg _ (h5 y hy)).2⟩⟩
    constructor
    · rw [zbfv]
      unfold zqs zti
      have h1 := Nes_3 (zgb n) a h.1 (fun t ht => ⟨(hsub t ht).1, fun f hf => ((hsub t ht).2 f hf).1⟩) (Int.toNat 0 + a.length + (Int.ofNat a.length).toNat + Int.toNat 0 + 1) 0 (by omega)
      rw [show ((0 : Nat) : Int) = (0 : Int) from rfl, Nat.zero_max] at h1
      rw [Wy.fin_bn, show Int.ofNat a.length = (a.length : Int) from rfl] at *
      rw [h1]; rfl
    · rw [zblt]
      unfold zx3 z1m
      have h1 := RNes_3 (zl7 n) a h.1 (fun t ht => ⟨(hsub t ht).1, fun f hf => ((hsub t ht).2 f hf).2⟩) (a.length + Int.toNat 0 + Int.toNat 0 + 1 + szTs a) 0 (by omega)
      rw [show ((0 : Nat) : Int) = (0 : Int) from rfl, Nat.zero_max] at h1
      rw [Wy.fin_bn, h1]; rfl

theorem zyy (x y : Int) : ze6 x y = (true, cmpI x y) := by
  unfold ze6 z09 zsx z59 cmpI
  by_cases h1 : x < y
  · simp [h1, Wy.fin_i, Wy.fin_k]
  · by_cases h2 : y < x <;> simp [h1, h2, Wy.fin_i, Wy.fin_k]
theorem zv0 (x y : Int) : zkd x y = (true, cmpI x y) := by
  unfold zkd zxs zpg z1a cmpI
  by_cases h1 : x < y
  · simp [h1, Wy.fin_i, Wy.fin_k]
  · by_cases h2 : y < x <;> simp [h1, h2, Wy.fin_i, Wy.fin_k]
def firstNZ : List Int → Int
  | [] => 0
  | x :: r => if x = 0 then firstNZ r else x
theorem Or_loop (l : List Int) (hl : l.length ≤ 1000000) : ∀ (n i : Nat), l.length < i + n → i ≤ l.length → ∃ r, zbbf n 0 l l.length i = (true, r) ∧ (r = .inl (firstNZ (l.drop i)) ∨ (r = .inr 0 ∧ firstNZ (l.drop i) = 0))
  | 0, i, h, h2 => by omega
  | n + 1, i, h, h2 => by
    show ∃ r, (zbbj 0 l l.length i).ev (fun x y => zbbf n x.1 x.2.1 x.2.2.1 x.2.2.2.1) (fun r => (true, r)) (false, .inl default) = (true, r) ∧ _
    unfold zbbj
    by_cases hi : i < l.length
    · simp only [Wy.ev_i, Wy.ev_k, Wy.ev_h, Int.ofNat_eq_natCast, lt_nat, le0_nat, decide_true, decide_false, Bool.and_self, Bool.true_and, Bool.and_true, cond_true, cond_false, Int.toNat_natCast, Bool.not_true, Bool.not_false, hi]
      obtain ⟨r, h1, h3⟩ := Or_loop l hl n (i + 1) (by omega) (by omega)
      rw [drop_lt hi, wrap_succ (by omega), h1]
      generalize l.getD i default = x
      by_cases hx : x = 0
      · have e : (x != 0) = false := by simp [hx]
        simp only [e, cond_false, firstNZ, hx, if_true]
        exact ⟨r, rfl, h3⟩
      · have e : (x != 0) = true := by simp [hx]
        simp only [e, cond_true, firstNZ, hx, if_false]
        exact ⟨_, rfl, .inl rfl⟩
    · simp only [Wy.ev_i, Wy.ev_k, Wy.ev_h, Int.ofNat_eq_natCast, lt_nat, le0_nat, decide_true, decide_false, Bool.and_self, Bool.true_and, Bool.and_true, cond_true, cond_false, Int.toNat_natCast, Bool.not_true, Bool.not_false, hi, drop_ge hi]
      exact ⟨_, rfl, .inr ⟨rfl, rfl⟩⟩
theorem zwv (l : List Int) (hl : l.length ≤ 1000000) : zqk l = (true, firstNZ l) := by
  unfold zqk zbet
  obtain ⟨r, h1, h2⟩ := Or_loop l hl (Int.toNat 0 + l.length + (Int.ofNat l.length).toNat + Int.toNat 0 + 1) 0 (by simp; omega) (by omega)
  rw [show ((0 : Nat) : Int) = (0 : Int) from rfl] at h1
  rw [Wy.fin_bn, show Int.ofNat l.length = (l.length : Int) from rfl] at *
  rw [h1]
  rw [List.drop_zero] at h2
  rcases h2 with rfl | ⟨rfl, h2⟩
  · rfl
  · rw [h2]; rfl

section
variable {α : Type}
def lexG (c : α → α → Int) : List α → List α → Int
  | [], [] => 0
  | [], _ :: _ => -1
  | _ :: _, [] => 1
  | x :: a, y :: b => if c x y = 0 then lexG c a b else c x y
theorem zbgn (e : α → TT) {c : α → α → Int} : ∀ (a b : List α), (∀ x ∈ a, ∀ y ∈ b, c x y = cmpT (e x) (e y)) → lexG c a b = cmpL (a.map e) (b.map e)
  | [], [], _ => by simp only [lexG, List.map, cmpL]
  | [], _ :: _, _ => by simp only [lexG, List.map, cmpL]
  | _ :: _, [], _ => by simp only [lexG, List.map, cmpL]
  | x :: a, y :: b, h => by
    simp only [lexG, List.map, cmpL]
    rw [h x (by simp) y (by simp), zbgn e a b fun x hx y hy => h x (by simp [hx]) y (by simp [hy])]
variable [Inhabited α]
def CF_W2 (g : α → α → Bool × Int) (s1 : List α) (s2 : List α) (t11 : List α) (t12 : Int) (t13 : Int) : Wy (List α × List α × Unit × List α × Int × Int × Unit) (Unit) (Int ⊕ (List α × List α)) := .i (decide (t13 < t12)) (.i (decide ((0 : Int) ≤ t13) && decide (t13 < Int.ofNat t11.length)) (.i (decide (t13 ≥ Int.ofNat s2.length)) (.k (.inl (1 : Int))) (.i (decide ((0 : Int) ≤ t13) && decide (t13 < Int.ofNat s2.length)) (.bn (g (t11.getD t13.toNat default) (s2.getD t13.toNat default)) fun r0 => .i (r0 != (0 : Int)) (.k (.inl (r0))) (.h (s1, s2, (), t11, t12, (IntKind.i64.wrap (t13 + (1 : Int))), ()) ())) .d)) .d) (.k (.inr (s1, s2)))
def CF_w2 (g : α → α → Bool × Int) (x : List α × List α × Unit × List α × Int × Int × Unit) (y : Unit) : Wy (List α × List α × Unit × List α × Int × Int × Unit) (Unit) (Int ⊕ (List α × List α)) := CF_W2 g x.1 x.2.1 x.2.2.2.1 x.2.2.2.2.1 x.2.2.2.2.2.1
def CF_L2 (g : α → α → Bool × Int) (n : Nat) (s1 : List α) (s2 : List α) (t11 : List α) (t12 : Int) (t13 : Int) : Bool × (Int ⊕ (List α × List α)) := iterW (CF_w2 g) (.inl default) n (s1, s2, (), t11, t12, t13, ()) ()
def CF (g : α → α → Bool × Int) (s1 s2 : List α) : Bool × Int := (.bn (CF_L2 g (s1.length + s2.length + s1.length + (Int.ofNat s1.length).toNat + Int.toNat (0 : Int) + (1 : Nat)) s1 s2 s1 (Int.ofNat s1.length) (0 : Int)) fun r2 => .i (isL r2) (.k (getL r2)) (.i (decide (Int.ofNat (getR r2).fst.length < Int.ofNat (getR r2).snd.length)) (.k (-1 : Int)) (.k (0 : Int))) : Wy0 Int).fin default
theorem CF_loop (g : α → α → Bool × Int) (c : α → α → Int) (a b : List α) (ha : a.length ≤ 1000000) (hg : ∀ x ∈ a, ∀ y ∈ b, g x y = (true, c x y)) : ∀ (n i : Nat), a.length < i + n → i ≤ a.length → i ≤ b.length →
    ∃ r, CF_L2 g n a b a a.length i = (true, r) ∧ ((r = .inl (lexG c (a.drop i) (b.drop i))) ∨ (r = .inr (a, b) ∧ lexG c (a.drop i) (b.drop i) = if a.length < b.length then -1 else 0))
  | 0, i, h, h2, h3 => by omega
  | n + 1, i, h, h2, h3 => by
    show ∃ r, (CF_W2 g a b a a.length i).ev (fun x y => CF_L2 g n x.1 x.2.1 x.2.2.2.1 x.2.2.2.2.1 x.2.2.2.2.2.1) (fun r => (true, r)) (false, .inl default) = (true, r) ∧ _
    unfold CF_W2
    by_cases hi : i < a.length
    · by_cases hi' : i < b.length
      · have hg' : ¬ b.length ≤ i := by omega
        simp only [Wy.ev_i, Wy.ev_k, Wy.ev_h, Wy.ev_bn, Wy.ev_d, Int.ofNat_eq_natCast, lt_nat, le0_nat, decide_true, decide_false, Bool.and_self, Bool.true_and, Bool.and_true, cond_true, cond_false, Int.toNat_natCast, Bool.not_true, Bool.not_false, hi, hi', ge_nat, hg', hg _ (getD_mem hi) _ (getD_mem hi')]
        rw [drop_lt hi, drop_lt hi', wrap_succ (by omega)]
        simp only [lexG]
        generalize c (a.getD i default) (b.getD i default) = z
        by_cases hx : z = 0
        · have e : (z != 0) = false := by simp [hx]
          simp only [e, cond_false, hx, if_true]
          exact CF_loop g c a b ha hg n (i + 1) (by omega) (by omega) (by omega)
        · have e : (z != 0) = true := by simp [hx]
          simp only [e, cond_true, hx, if_false]
          exact ⟨_, rfl, .inl rfl⟩
      · have hg' : b.length ≤ i := by omega
        simp only [Wy.ev_i, Wy.ev_k, Wy.ev_h, Wy.ev_bn, Wy.ev_d, Int.ofNat_eq_natCast, lt_nat, le0_nat, decide_true, decide_false, Bool.and_self, Bool.true_and, Bool.and_true, cond_true, cond_false, Int.toNat_natCast, Bool.not_true, Bool.not_false, hi, ge_nat, hg']
        refine ⟨_, rfl, .inl ?_⟩
        rw [drop_lt hi, drop_ge hi']; rfl
    · simp only [Wy.ev_i, Wy.ev_k, Wy.ev_h, Wy.ev_bn, Wy.ev_d, Int.ofNat_eq_natCast, lt_nat, le0_nat, decide_true, decide_false, Bool.and_self, Bool.true_and, Bool.and_true, cond_true, cond_false, Int.toNat_natCast, Bool.not_true, Bool.not_false, hi]
      refine ⟨_, rfl, .inr ⟨rfl, ?_⟩⟩
      rw [drop_ge hi]
      by_cases hi' : i < b.length
      · rw [drop_lt hi', if_pos (by omega)]; rfl
      · rw [drop_ge hi', if_neg (by omega)]; rfl
theorem CF_eq (g : α → α → Bool × Int) (c : α → α → Int) (a b : List α) (ha : a.length ≤ 1000000) (hg : ∀ x ∈ a, ∀ y ∈ b, g x y = (true, c x y)) : CF g a b = (true, lexG c a b) := by
  unfold CF
  obtain ⟨r, h1, h2⟩ := CF_loop g c a b ha hg (a.length + b.length + a.length + (Int.ofNat a.length).toNat + Int.toNat 0 + 1) 0 (by simp; omega) (by omega) (by omega)
  rw [show ((0 : Nat) : Int) = (0 : Int) from rfl] at h1
  rw [Wy.fin_bn, show Int.ofNat a.length = (a.length : Int) from rfl] at *
  rw [h1]
  simp only [List.drop_zero] at h2
  rcases h2 with rfl | ⟨rfl, h2⟩
  · rfl
  · rw [h2]
    simp only [Wy.fin_i, Wy.fin_k, Int.ofNat_eq_natCast, lt_nat, le0_nat, decide_true, decide_false, Bool.and_self, Bool.true_and, Bool.and_true, cond_true, cond_false, Int.toNat_natCast, Bool.not_true, Bool.not_false, isL, getR]
    by_cases h3 : a.length < b.length <;> simp [h3]
end
theorem CF_tree {α : Type} [Inhabited α] (e : α → TT) (g : α → α → Bool × Int) (a b : List α) (ha : a.length ≤ 1000000) (hg : ∀ x ∈ a, ∀ y ∈ b, g x y = (true, cmpT (e x) (e y))) : CF g a b = (true, cmpL (a.map e) (b.map e)) := by
  rw [CF_eq g (fun x y => cmpT (e x) (e y)) a b ha hg, zbgn e a b fun _ _ _ _ => rfl]

theorem Factor.eta2 (x : Factor) : (FactorOf.mk (Atom.mk x.Atom.Kind x.Atom.Row x.Atom.Args x.Atom.Func x.Atom.Items x.Atom.Op x.Atom.Bound) x.Exp : Factor) = x := by rw [Atom.eta]
theorem zbsn (g) : zby g = CF g := rfl
theorem zbrp (g) : zbs g = CF g := by
  have h : zbn g = CF_w2 g := by
    funext x y
    unfold zbn zd0 CF_w2 CF_W2
    rw [Factor.eta2, Factor.eta2]
  funext a b
  unfold zbs zcj zd3
  rw [h]; rfl
theorem CF_anns (g) : zbo g = CF g := rfl
theorem zbsg (g) : zbw g = CF g := rfl

theorem zbdv (a b : Value) : zsw a b = (true, cmpT (trV a) (trV b)) := by
  unfold zsw z47
  have h : (strings_Compare a.Text b.Text).2 = cmpT (trB a.Text) (trB b.Text) := by rw [← trB_cmp]; rfl
  simp only [zyy, zv0, Wy.fin_bn, cond_true, h]
  rw [zwv _ (by simp)]
  simp only [Wy.fin_k, cond_true, trV, cmpT, cmpL, firstNZ]
  rfl
theorem zbsu (x y x' y' : TT) : firstNZ [cmpT x x', cmpT y y'] = cmpL [x, y] [x', y'] := by simp only [firstNZ, cmpL]

theorem cmp_all : ∀ n,
    (∀ d a b, fineAnn d a → 10 * d ≤ n → zf5 n a b = (true, cmpL (trAnn a) (trAnn b))) ∧
    (∀ d a b, fineAnn d a → 10 * d ≤ n + 1 → zbq n a b = (true, cmpL (trAnn a) (trAnn b))) ∧
    (∀ d x y, zky (fineAnn d) x.Factors → 10 * d + 10 ≤ n + 2 → zf3 n x y = (true, cmpT (trTerm x) (trTerm y))) ∧
    (∀ d x y, zky (fineAnn d) x.Factors → 10 * d + 10 ≤ n + 3 → zhb n x y = (true, cmpL (zco x.Factors) (zco y.Factors))) ∧
    (∀ d l l', zky (fineAnn d) l → 10 * d + 10 ≤ n + 4 → zbr n l l' = (true, cmpL (zco l) (zco l'))) ∧
    (∀ d x y, zha (fineAnn d) x.Atom → 10 * d + 10 ≤ n + 5 → zev n x y = (true, cmpT (zry x) (zry y))) ∧
    (∀ d x y, zha (fineAnn d) x → 10 * d + 10 ≤ n + 6 → zhi n x y = (true, cmpT (trAtom x) (trAtom y))) ∧
    (∀ d a b, a.length ≤ 1000000 → (∀ x ∈ a, fineAnn d x) → 10 * d + 10 ≤ n + 7 → zbd n a b = (true, cmpL (trAnns a) (trAnns b))) ∧
    (∀ d a b, a.length ≤ 1000000 → (∀ x ∈ a, fineAnn d x.Ann) → 10 * d + 10 ≤ n + 7 → zbg n a b = (true, cmpL (trItems a) (trItems b))) ∧
    (∀ d x y, fineAnn d x.Ann → 10 * d + 10 ≤ n + 8 → zfd n x y = (true, cmpT (trItem x) (trItem y)))
  | 0 => by
    refine ⟨?_, ?_, ?_, ?_, ?_, ?_, ?_, ?_, ?_, ?_⟩
    · intro d a b h hd; have : d = 0 := by omega
      subst this; exact h.elim
    · intro d a b h hd; have : d = 0 := by omega
      subst this; exact h.elim
    all_goals (intros; omega)
  | n + 1 => by
    obtain ⟨h1, h2, h3, h4, h5, h6, h7, h8, h9, h10⟩ := cmp_all n
    refine ⟨?_, ?_, ?_, ?_, ?_, ?_, ?_, ?_, ?_, ?_⟩
    · intro d a b h hd
      rw [zbfe]
      unfold zqz ztq
      rw [Wy.fin_bn, h2 d a b h (by omega)]; rfl
    · intro d a b h hd
      cases d with
      | zero => exact h.elim
      | succ d =>
        rw [zi7, zbsn, z91, z91]
        exact CF_tree trTerm _ a b h.1 fun x hx y hy => h3 d x y (h.2 x hx) (by omega)
    · intro d x y h hd
      rw [zbaw]
      unfold znc zqx
      rw [Wy.fin_bn, h4 d x y h (by omega)]
      simp only [cond_true, Wy.fin_bn, zv0]
      rw [zwv _ (by simp)]
      obtain ⟨c, l⟩ := x; obtain ⟨c', l'⟩ := y
      simp only [cond_true, Wy.fin_k, firstNZ, trTerm, cmpT, cmpL]
      rfl
    · intro d x y h hd
      rw [z73]
      unfold zlt zop
      rw [Wy.fin_bn, h5 d _ _ h (by omega)]; rfl
    · intro d l l' h hd
      rw [zjz, zbrp, zws, zws]
      exact CF_tree zry _ l l' h.1 fun x hx y hy => h6 d x y (h.2 x hx) (by omega)
    · intro d x y h hd
      rw [z6a]
      unfold zkm zm3
      rw [Atom.eta, Atom.eta, Wy.fin_bn, h7 d _ _ h (by omega)]
      simp only [cond_true, Wy.fin_bn, zyy]
      rw [zwv _ (by simp)]
      obtain ⟨c, l⟩ := x; obtain ⟨c', l'⟩ := y
      simp only [cond_true, Wy.fin_k, firstNZ, zry, cmpT, cmpL]
      rfl
    · intro d x y h hd
      rw [z78]
      unfold zlq zoh
      simp only [cond_true, Wy.fin_bn, zyy, zbdv, h8 d x.Args y.Args h.1.1 h.2.1 (by omega), h9 d x.Items y.Items h.1.2.1 (fun w hw => (h.2.2 w hw).2) (by omega)]
      rw [zwv _ (by simp)]
      obtain ⟨k, r, a, f, i, o, v⟩ := x; obtain ⟨k', r', a', f', i', o', v'⟩ := y
      simp only [cond_true, Wy.fin_k, firstNZ, trAtom, cmpT, cmpL]
      rfl
    · intro d a b h0 h hd
      rw [zfk, CF_anns, z5m, z5m]
      exact CF_tree (fun x => TT.l (trAnn x)) _ a b h0 fun x hx y hy => by rw [h1 d x y (h x hx) (by omega)]; simp only [cmpT]
    · intro d a b h0 h hd
      rw [zgs, zbsg, zod, zod]
      exact CF_tree trItem _ a b h0 fun x hx y hy => h10 d x y (h x hx) (by omega)
    · intro d x y h hd
      rw [z8d]
      unfold zlr zov
      simp only [cond_true, Wy.fin_bn, zbdv, h1 d _ _ h (by omega)]
      rw [zwv _ (by simp)]
      obtain ⟨c, l⟩ := x; obtain ⟨c', l'⟩ := y
      simp only [cond_true, Wy.fin_k, firstNZ, trItem, cmpT, cmpL]
      rfl

theorem zbh2 {d : Nat} {a : List Term} (h : fineAnn d a) (hd : d ≤ 100) (b : List Term) : zzw a b = (true, cmpL (trAnn a) (trAnn b)) := (cmp_all 1000).1 d a b h (by omega)
theorem zba1 {d : Nat} {x : Term} (h : zky (fineAnn d) x.Factors) (hd : d ≤ 99) (y : Term) : zce x y = (true, cmpL (zco x.Factors) (zco y.Factors)) := (cmp_all 1000).2.2.2.1 d x y h (by omega)
theorem zbbm {d : Nat} {x : Atom} (h : zha (fineAnn d) x) (hd : d ≤ 99) (y : Atom) : zjq x y = (true, cmpT (trAtom x) (trAtom y)) := (cmp_all 1000).2.2.2.2.2.2.1 d x y h (by omega)
theorem zpn {d : Nat} {x : Weighted} (h : fineAnn d x.Ann) (hd : d ≤ 99) (y : Weighted) : zbf x y = (true, cmpT (trItem x) (trItem y)) := (cmp_all 1000).2.2.2.2.2.2.2.2.2 d x y h (by omega)
theorem zbkt {d : Nat} {a : List Term} (h : fineAnn d a) (hd : d ≤ 100) (b : List Term) : zld a b = (true, decide (a = b)) := by
  unfold zld zzy
  rw [Wy.fin_bn, zbh2 h hd]
  simp only [cond_true, Wy.fin_k]
  congr 1
  by_cases e : a = b
  · subst e; rw [cmpL_self]; simp
  · have : cmpL (trAnn a) (trAnn b) ≠ 0 := fun h => e (z92 _ _ (cmpL_eq _ _ h))
    simp [e, this]

theorem zbm1 (s : ByteArray) : ∀ (n i : Nat) (r : List UInt8), s.size ≤ i + n → ByteArray.toList.loop s i r = r.reverse ++ s.data.toList.drop i
  | 0, i, r, h => by
    rw [ByteArray.toList.loop, if_neg (by omega), List.drop_eq_nil_of_le (by rw [← Lib.size_eq]; omega), List.append_nil]
  | n + 1, i, r, h => by
    rw [ByteArray.toList.loop]
    by_cases hi : i < s.size
    · have hi' : i < s.data.toList.length := by rw [← Lib.size_eq]; exact hi
      rw [if_pos hi, zbm1 s n (i + 1) _ (by omega), List.drop_eq_getElem_cons hi', List.reverse_cons, List.append_assoc]
      congr 1
      have : s.get! i = s.data.toList[i] := by
        have h' : i < s.data.size := hi
        show s.data[i]! = s.data.toList[i]
        rw [getElem!_pos s.data i h']; rfl
      rw [this]; rfl
    · rw [if_neg hi, List.drop_eq_nil_of_le (by rw [← Lib.size_eq]; omega), List.append_nil]
theorem zbf8 (s : ByteArray) : s.toList = s.data.toList := by
  rw [ByteArray.toList, zbm1 s s.size 0 [] (by omega)]; rfl
theorem zbl1 {s t : ByteArray} (h : s.data.toList = t.data.toList) : s = t := by
  cases s; cases t
  congr 1
  exact Array.toList_inj.1 h
theorem zbrm (s t : ByteArray) : (s.toList == t.toList) = decide (s.data.toList = t.data.toList) := by
  rw [zbf8, zbf8]
  cases hb : (s.data.toList == t.data.toList) with
  | true => rw [decide_eq_true (beq_iff_eq.1 hb)]
  | false => rw [decide_eq_false (fun h => by rw [beq_iff_eq.2 h] at hb; cases hb)]
theorem zblr (s t : ByteArray) : (s.toList == t.toList) = decide (s = t) := by
  rw [zbrm]
  by_cases h : s = t
  · rw [decide_eq_true h, decide_eq_true (by rw [h])]
  · rw [decide_eq_false h, decide_eq_false fun e => h (zbl1 e)]
theorem bne0 (z w : Int) : (z != w) = !decide (z = w) := by by_cases h : z = w <;> simp [h]
theorem zbj8 : ∀ a b : List UInt8, Op.bytesLess a b = decide (Lib.compareBytes a b < 0)
  | [], [] => by simp [Op.bytesLess, Lib.compareBytes]
  | _ :: _, [] => by simp [Op.bytesLess, Lib.compareBytes]
  | [], _ :: _ => by simp [Op.bytesLess, Lib.compareBytes]
  | x :: a, y :: b => by
    simp only [Op.bytesLess, Lib.compareBytes]
    by_cases p : x < y
    · simp [p]
    · by_cases q : y < x
      · have hne : ¬ x = y := fun e => by subst e; exact p q
        simp [p, q, hne]
      · have he : x = y := UInt8.toNat_inj.1 (by rw [UInt8.lt_iff_toNat_lt] at p q; omega)
        subst he
        simp [p, zbj8 a b]
theorem zbdk (a b : Value) : zpm a b = (true, cmpT (trV a) (trV b)) := by
  unfold zpm z4j zz5 zbde
  rw [zblr, zbf8, zbf8, zbj8, trB_cmp]
  simp only [trV, cmpT, cmpL, cmpI]
  simp only [Wy.fin_i, Wy.fin_bn, Wy.fin_k, cond_true, bne0]
  by_cases h1 : a.Kind = b.Kind
  · by_cases h2 : a.Int = b.Int
    · by_cases h3 : a.Text = b.Text
      · simp [h1, h2, h3, cmpT_self]
      · have h4 : cmpT (trB a.Text) (trB b.Text) ≠ 0 := fun e => by
          have := zbay _ _ (TT.l.inj (cmpT_eq _ _ e))
          exact h3 (zbl1 this)
        have h5 := cmpT_rng (trB a.Text) (trB b.Text)
        simp only [trB, cmpT] at h4 h5
        simp only [trB, cmpT]
        rcases h5 with h5 | h5 | h5
        · simp [h1, h2, h3, h5]
        · exact absurd h5 h4
        · simp [h1, h2, h3, h5]
    · by_cases h3 : a.Int < b.Int
      · simp [h1, h2, h3]
      · simp [h1, h2, h3, show b.Int < a.Int by omega]
  · by_cases h3 : a.Kind < b.Kind
    · simp [h1, h3]
    · simp [h1, h3, show b.Kind < a.Kind by omega]
theorem zpe (x y : Int) : zcy x y = (true, cmpI x y) := by
  unfold zcy z8m cmpI
  by_cases h1 : x < y
  · simp [h1, Wy.fin_i, Wy.fin_k]
  · by_cases h2 : y < x <;> simp [h1, h2, Wy.fin_i, Wy.fin_k]
theorem zbst (a b : Int) : (cmpI a b = 0) ↔ a = b := ⟨cmpI_eq, fun h => h ▸ cmpI_self a⟩
theorem zblc (x y : RowID) : zrg x y = (true, if cmpI x.Table y.Table = 0 then cmpI x.Seq y.Seq else cmpI x.Table y.Table) := by
  unfold zrg zze
  simp only [zpe, Wy.fin_i, Wy.fin_bn, Wy.fin_k, cond_true, bne0]
  by_cases h : cmpI x.Table y.Table = 0
  · simp [h]
  · simp [h]

section
variable {α : Type} [Inhabited α]
def RG_W2 (p q : α → α → Bool × Int) (a : List α) (b : List α) (i : Int) : Wy (List α × List α × Int × Unit) (Unit) (Int ⊕ (List α × List α)) := .i (decide (i < Int.ofNat a.length)) (.i (decide (i < Int.ofNat b.length)) (.i (decide ((0 : Int) ≤ i) && decide (i < Int.ofNat a.length)) (.i (decide ((0 : Int) ≤ i) && decide (i < Int.ofNat b.length)) (.bn (p (a.getD i.toNat default) (b.getD i.toNat default)) fun r1 => .i (r1 != (0 : Int)) (.k (.inl (r1))) (.i (decide ((0 : Int) ≤ i) && decide (i < Int.ofNat a.length)) (.i (decide ((0 : Int) ≤ i) && decide (i < Int.ofNat b.length)) (.bn (q (a.getD i.toNat default) (b.getD i.toNat default)) fun r0 => .i (r0 != (0 : Int)) (.k (.inl (r0))) (.h (a, b, (IntKind.i64.wrap (i + (1 : Int))), ()) ())) .d) .d)) .d) .d) (.k (.inr (a, b)))) (.k (.inr (a, b)))
def RG_w2 (p q : α → α → Bool × Int) (x : List α × List α × Int × Unit) (y : Unit) : Wy (List α × List α × Int × Unit) (Unit) (Int ⊕ (List α × List α)) := RG_W2 p q x.1 x.2.1 x.2.2.1
def RG_L2 (p q : α → α → Bool × Int) (n : Nat) (a : List α) (b : List α) (i : Int) : Bool × (Int ⊕ (List α × List α)) := iterW (RG_w2 p q) (.inl default) n (a, b, i, ()) ()
def RG (p q : α → α → Bool × Int) (a b : List α) : Bool × Int := (.bn (RG_L2 p q (a.length + b.length + Int.toNat (0 : Int) + (1 : Nat)) a b (0 : Int)) fun r5 => .i (isL r5) (.k (getL r5)) (.bn (zcy (Int.ofNat (getR r5).fst.length) (Int.ofNat (getR r5).snd.length)) fun r4 => .k r4) : Wy0 Int).fin default
theorem RG_loop (p q : α → α → Bool × Int) (c1 c2 : α → α → Int) (a b : List α) (ha : a.length ≤ 1000000) (hp : ∀ x ∈ a, ∀ y ∈ b, p x y = (true, c1 x y)) (hq : ∀ x ∈ a, ∀ y ∈ b, q x y = (true, c2 x y)) : ∀ (n i : Nat), a.length < i + n → i ≤ a.length → i ≤ b.length →
    ∃ r, RG_L2 p q n a b i = (true, r) ∧ ((r = .inl (lexG (fun x y => if c1 x y = 0 then c2 x y else c1 x y) (a.drop i) (b.drop i))) ∨ (r = .inr (a, b) ∧ lexG (fun x y => if c1 x y = 0 then c2 x y else c1 x y) (a.drop i) (b.drop i) = cmpI a.length b.length))
  | 0, i, h, h2, h3 => by omega
  | n + 1, i, h, h2, h3 => by
    show ∃ r, (RG_W2 p q a b i).ev (fun x y => RG_L2 p q n x.1 x.2.1 x.2.2.1) (fun r => (true, r)) (false, .inl default) = (true, r) ∧ _
    unfold RG_W2
    by_cases hi : i < a.length
    · by_cases hi' : i < b.length
      · simp only [Wy.ev_i, Wy.ev_k, Wy.ev_h, Wy.ev_bn, Wy.ev_d, tT, hi, hi', hp _ (getD_mem hi) _ (getD_mem hi'), hq _ (getD_mem hi) _ (getD_mem hi')]
        rw [drop_lt hi, drop_lt hi', wrap_succ (by omega)]
        simp only [lexG]
        generalize c1 (a.getD i default) (b.getD i default) = z1
        generalize c2 (a.getD i default) (b.getD i default) = z2
        by_cases hx : z1 = 0
        · have e : (z1 != 0) = false := by simp [hx]
          by_cases hx2 : z2 = 0
          · have e2 : (z2 != 0) = false := by simp [hx2]
            simp only [e, e2, cond_false, hx, hx2, if_true]
            exact RG_loop p q c1 c2 a b ha hp hq n (i + 1) (by omega) (by omega) (by omega)
          · have e2 : (z2 != 0) = true := by simp [hx2]
            simp only [e, e2, cond_false, cond_true, hx, hx2, if_true, if_false]
            exact ⟨_, rfl, .inl rfl⟩
        · have e : (z1 != 0) = true := by simp [hx]
          simp only [e, cond_true, hx, if_false]
          exact ⟨_, rfl, .inl rfl⟩
      · simp only [Wy.ev_i, Wy.ev_k, Wy.ev_h, Wy.ev_bn, Wy.ev_d, tT, hi, hi']
        refine ⟨_, rfl, .inr ⟨rfl, ?_⟩⟩
        rw [drop_lt hi, drop_ge hi']
        unfold cmpI; rw [if_neg (by omega), if_pos (by omega)]; rfl
    · simp only [Wy.ev_i, Wy.ev_k, Wy.ev_h, Wy.ev_bn, Wy.ev_d, tT, hi]
      refine ⟨_, rfl, .inr ⟨rfl, ?_⟩⟩
      rw [drop_ge hi]
      by_cases hi' : i < b.length
      · rw [drop_lt hi']; unfold cmpI; rw [if_pos (by omega)]; rfl
      · rw [drop_ge hi']; unfold cmpI; rw [if_neg (by omega), if_neg (by omega)]; rfl
theorem RG_eq (p q : α → α → Bool × Int) (c1 c2 : α → α → Int) (a b : List α) (ha : a.length ≤ 1000000) (hp : ∀ x ∈ a, ∀ y ∈ b, p x y = (true, c1 x y)) (hq : ∀ x ∈ a, ∀ y ∈ b, q x y = (true, c2 x y)) : RG p q a b = (true, lexG (fun x y => if c1 x y = 0 then c2 x y else c1 x y) a b) := by
  unfold RG
  obtain ⟨r, h1, h2⟩ := RG_loop p q c1 c2 a b ha hp hq (a.length + b.length + Int.toNat 0 + 1) 0 (by simp; omega) (by omega) (by omega)
  rw [show ((0 : Nat) : Int) = (0 : Int) from rfl] at h1
  rw [Wy.fin_bn, h1]
  simp only [List.drop_zero] at h2
  rcases h2 with rfl | ⟨rfl, h2⟩
  · rfl
  · rw [h2]
    simp only [Wy.fin_i, Wy.fin_k, Wy.fin_bn, zpe, tT, isL, getR]
end
theorem RG_tree {α : Type} [Inhabited α] (e : α → TT) (p q : α → α → Bool × Int) (c1 c2 : α → α → Int) (a b : List α) (ha : a.length ≤ 1000000) (hp : ∀ x ∈ a, ∀ y ∈ b, p x y = (true, c1 x y)) (hq : ∀ x ∈ a, ∀ y ∈ b, q x y = (true, c2 x y))
    (hc : ∀ x y, (if c1 x y = 0 then c2 x y else c1 x y) = cmpT (e x) (e y)) : RG p q a b = (true, cmpL (a.map e) (b.map e)) := by
  rw [RG_eq p q c1 c2 a b ha hp hq, zbgn e a b fun x _ y _ => hc x y]

theorem zbsk (g) : zxw g = RG (fun x y => g x.Factors y.Factors) (fun x y => zcy x.Coeff y.Coeff) := rfl
theorem zbrf (g) : zk0 g = RG (fun x y => g x.Atom y.Atom) (fun x y => zcy x.Exp y.Exp) := by
  have h : zhl g = RG_w2 (fun x y => g x.Atom y.Atom) (fun x y => zcy x.Exp y.Exp) := by
    funext x y
    unfold zhl zyf RG_w2 RG_W2
    rw [Atom.eta, Atom.eta]
  funext a b
  unfold zk0 zrj zyg
  rw [h]; rfl
theorem zbsh (g) : zqi g = RG (fun x y => zpm x.Value y.Value) (fun x y => g x.Ann y.Ann) := rfl

theorem zbpr (gI) (g : List Term → List Term → Bool × Int) (a b : Atom) (ha : a.Args.length ≤ 1000000) (hg : ∀ x ∈ a.Args, ∀ y ∈ b.Args, g x y = (true, cmpL (trAnn x) (trAnn y))) : ∀ (n i : Nat), a.Args.length < i + n → i ≤ a.Args.length → i ≤ b.Args.length →
    ∃ r, zto gI g n i a b = (true, r) ∧ ((r = .inl (lexG (fun x y => cmpL (trAnn x) (trAnn y)) (a.Args.drop i) (b.Args.drop i)) ∧ lexG (fun x y => cmpL (trAnn x) (trAnn y)) (a.Args.drop i) (b.Args.drop i) ≠ 0) ∨ (r = .inr (a, b) ∧ lexG (fun x y => cmpL (trAnn x) (trAnn y)) (a.Args.drop i) (b.Args.drop i) = cmpI a.Args.length b.Args.length))
  | 0, i, h, h2, h3 => by omega
  | n + 1, i, h, h2, h3 => by
    show ∃ r, (ztd gI g i a b).ev (fun x y => zto gI g n x.2.2.1 y.1 y.2.1) (fun r => (true, r)) (false, .inl default) = (true, r) ∧ _
    unfold ztd
    by_cases hi : i < a.Args.length
    · by_cases hi' : i < b.Args.length
      · simp only [Wy.ev_i, Wy.ev_k, Wy.ev_h, Wy.ev_bn, Wy.ev_d, tT, hi, hi', hg _ (getD_mem hi) _ (getD_mem hi')]
        rw [drop_lt hi, drop_lt hi', wrap_succ (by omega)]
        simp only [lexG]
        generalize cmpL (trAnn (a.Args.getD i default)) (trAnn (b.Args.getD i default)) = z1
        by_cases hx : z1 = 0
        · have e : (z1 != 0) = false := by simp [hx]
          simp only [e, cond_false, hx, if_true]
          exact zbpr gI g a b ha hg n (i + 1) (by omega) (by omega) (by omega)
        · have e : (z1 != 0) = true := by simp [hx]
          simp only [e, cond_true, hx, if_false]
          exact ⟨_, rfl, .inl ⟨rfl, hx⟩⟩
      · simp only [Wy.ev_i, Wy.ev_k, Wy.ev_h, Wy.ev_bn, Wy.ev_d, tT, hi, hi']
        refine ⟨_, rfl, .inr ⟨rfl, ?_⟩⟩
        rw [drop_lt hi, drop_ge hi']
        unfold cmpI; rw [if_neg (by omega), if_pos (by omega)]; rfl
    · simp only [Wy.ev_i, Wy.ev_k, Wy.ev_h, Wy.ev_bn, Wy.ev_d, tT, hi]
      refine ⟨_, rfl, .inr ⟨rfl, ?_⟩⟩
      rw [drop_ge hi]
      by_cases hi' : i < b.Args.length
      · rw [drop_lt hi']; unfold cmpI; rw [if_pos (by omega)]; rfl
      · rw [drop_ge hi']; unfold cmpI; rw [if_neg (by omega), if_neg (by omega)]; rfl
theorem atom_eq (gI) (g : List Term → List Term → Bool × Int) (x y : Atom) (ha : x.Args.length ≤ 1000000) (hg : ∀ a ∈ x.Args, ∀ b ∈ y.Args, g a b = (true, cmpL (trAnn a) (trAnn b)))
    (hI : gI x.Items y.Items = (true, cmpL (trItems x.Items) (trItems y.Items))) : znu gI g x y = (true, cmpT (trAtom x) (trAtom y)) := by
  unfold znu zuk
  rw [Atom.eta, Atom.eta]
  obtain ⟨r, h1, h2⟩ := zbpr gI g x y ha hg (Int.toNat 0 + 1 + x.Args.length + x.Items.length + y.Args.length + y.Items.length) 0 (by omega) (by omega) (by omega)
  rw [show ((0 : Nat) : Int) = (0 : Int) from rfl] at h1
  simp only [List.drop_zero] at h2
  rw [zbgn (fun a => TT.l (trAnn a)) x.Args y.Args (fun a _ b _ => by simp only [cmpT]), ← z5m, ← z5m] at h2
  simp only [zpe, zblc, Wy.fin_bn, Wy.fin_i, Wy.fin_k, cond_true, h1]
  obtain ⟨k, r0, a, f, i, o, v⟩ := x; obtain ⟨k', r', a', f', i', o', v'⟩ := y
  simp only [trAtom, cmpT, cmpL, bne0] at *
  by_cases e1 : cmpI k k' = 0
  rotate_left
  · simp [e1]
  by_cases e2 : cmpI r0.Table r'.Table = 0
  rotate_left
  · simp [e1, e2]
  by_cases e3 : cmpI r0.Seq r'.Seq = 0
  rotate_left
  · simp [e1, e2, e3]
  rcases h2 with ⟨rfl, h2⟩ | ⟨rfl, h2⟩
  · simp [e1, e2, e3, h2, isL, getL]
  simp only [e1, e2, e3, h2, isL, getR, tT, hI, if_true]
  by_cases e4 : cmpI (a.length : Int) (a'.length : Int) = 0
  rotate_left
  · simp [e4]
  by_cases e5 : cmpI f f' = 0
  rotate_left
  · simp [e4, e5]
  by_cases e6 : cmpL (trItems i) (trItems i') = 0
  rotate_left
  · simp [e4, e5, e6]
  by_cases e7 : cmpI o o' = 0
  rotate_left
  · simp [e4, e5, e6, e7]
  simp [e4, e5, e6, e7, zbdk]

theorem zbd2 : ∀ n,
    (∀ d a b, fineAnn d a → 10 * d ≤ n → zpi n a b = (true, cmpL (trAnn a) (trAnn b))) ∧
    (∀ d l l', zky (fineAnn d) l → 10 * d + 10 ≤ n + 1 → zk2 n l l' = (true, cmpL (zco l) (zco l'))) ∧
    (∀ d x y, zha (fineAnn d) x → 10 * d + 10 ≤ n + 2 → zno n x y = (true, cmpT (trAtom x) (trAtom y))) ∧
    (∀ d a b, a.length ≤ 1000000 → (∀ x ∈ a, fineAnn d x.Ann) → 10 * d + 10 ≤ n + 3 → zmd n a b = (true, cmpL (trItems a) (trItems b)))
  | 0 => by
    refine ⟨?_, ?_, ?_, ?_⟩
    · intro d a b h hd; have : d = 0 := by omega
      subst this; exact h.elim
    all_goals (intros; omega)
  | n + 1 => by
    obtain ⟨h1, h2, h3, h4⟩ := zbd2 n
    refine ⟨?_, ?_, ?_, ?_⟩
    · intro d a b h hd
      cases d with
      | zero => exact h.elim
      | succ d =>
        rw [zbl0, zbsk, z91, z91]
        exact RG_tree trTerm _ _ (fun x y => cmpL (zco x.Factors) (zco y.Factors)) (fun x y => cmpI x.Coeff y.Coeff) a b h.1 (fun x hx y hy => h2 d _ _ (h.2 x hx) (by omega)) (fun x _ y _ => zpe _ _) fun x y => by
          obtain ⟨c, l⟩ := x; obtain ⟨c', l'⟩ := y
          simp only [trTerm, cmpT, cmpL]
          by_cases e : cmpI c c' = 0 <;> simp [e]
    · intro d l l' h hd
      rw [zbdb, zbrf, zws, zws]
      exact RG_tree zry _ _ (fun x y => cmpT (trAtom x.Atom) (trAtom y.Atom)) (fun x y => cmpI x.Exp y.Exp) l l' h.1 (fun x hx y hy => h3 d _ _ (h.2 x hx) (by omega)) (fun x _ y _ => zpe _ _) fun x y => by
        obtain ⟨c, l⟩ := x; obtain ⟨c', l'⟩ := y
        simp only [zry, cmpT, cmpL]
        by_cases e : cmpI l l' = 0 <;> simp [e]
    · intro d x y h hd
      rw [zbha]
      exact atom_eq _ _ x y h.1.1 (fun a ha b _ => h1 d a b (h.2.1 a ha) (by omega)) (h4 d _ _ h.1.2.1 (fun w hw => (h.2.2 w hw).2) (by omega))
    · intro d a b h0 h hd
      rw [zbfb, zbsh, zod, zod]
      exact RG_tree trItem _ _ (fun x y => cmpT (trV x.Value) (trV y.Value)) (fun x y => cmpL (trAnn x.Ann) (trAnn y.Ann)) a b h0 (fun x _ y _ => zbdk _ _) (fun x hx y _ => h1 d _ _ (h x hx) (by omega)) fun x y => by
        obtain ⟨c, l⟩ := x; obtain ⟨c', l'⟩ := y
        simp only [trItem, cmpT, cmpL]
        by_cases e : cmpL (trAnn l) (trAnn l') = 0 <;> simp [e]
theorem zbno {d : Nat} {a : List Term} (h : fineAnn d a) (hd : d ≤ 100) (b : List Term) : zbau a b = (true, cmpL (trAnn a) (trAnn b)) := (zbd2 1000).1 d a b h (by omega)
theorem zbff {d : Nat} {l : List Factor} (h : zky (fineAnn d) l) (hd : d ≤ 99) (l' : List Factor) : zvx l l' = (true, cmpL (zco l) (zco l')) := (zbd2 1000).2.1 d l l' h (by omega)
theorem zbjg {d : Nat} {x : Atom} (h : zha (fineAnn d) x) (hd : d ≤ 99) (y : Atom) : zua x y = (true, cmpT (trAtom x) (trAtom y)) := (zbd2 1000).2.2.1 d x y h (by omega)
theorem zuj {d : Nat} {a : List Weighted} (h0 : a.length ≤ 1000000) (h : ∀ x ∈ a, fineAnn d x.Ann) (hd : d ≤ 99) (b : List Weighted) : zoo a b = (true, cmpL (trItems a) (trItems b)) := (zbd2 1000).2.2.2 d a b h0 h (by omega)
theorem zbj4 {d : Nat} {a : List Term} (h : fineAnn d a) (hd : d ≤ 100) (b : List Term) : zvu a b = (true, decide (a = b)) := by
  unfold zvu zbd8
  rw [Wy.fin_bn, zbno h hd]
  simp only [cond_true, Wy.fin_k]
  congr 1
  by_cases e : a = b
  · subst e; rw [cmpL_self]; simp
  · have : cmpL (trAnn a) (trAnn b) ≠ 0 := fun h => e (z92 _ _ (cmpL_eq _ _ h))
    simp [e, this]
end Go.Proofs.YtnolcogncjijpaaGreatDoor
end
