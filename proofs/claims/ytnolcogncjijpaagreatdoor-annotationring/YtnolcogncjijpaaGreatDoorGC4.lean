/- Texts of this claim, joined (the program, its functions in plain words, and what they compute). -/
import Derived.Test.YtnolcogncjijpaaGreatDoorGC3
import Derived.Test.YtnolcogncjijpaaGreatDoorGC2
import Derived.Test.YtnolcogncjijpaaGreatDoorGC1
import Derived.Test.YtnolcogncjijpaaGreatDoorGA2
import Derived.Test.YtnolcogncjijpaaGreatDoorGB1
set_option autoImplicit false
set_option linter.unusedVariables false
set_option linter.unusedSectionVars false
set_option linter.unusedSimpArgs false
set_option maxRecDepth 1000000
set_option maxHeartbeats 0
/- Which annotations are valid: both sides compute the same. -/
noncomputable section
namespace Go.Proofs.YtnolcogncjijpaaGreatDoor
open Go Go.Ab
def rz (r : RowID) : Bool := r.Table == (0 : Int) && (r.Seq == (0 : Int) && true)
def zmg (V : List Term → Bool) (l : List (List Term)) : Bool := l.all fun a => V a && !(a.length == 0)
def ztX (V : List Term → Bool) (l : List Weighted) : Bool := l.all fun w => V w.Ann && !(w.Ann.length == 0)
def zzB (r : RowID) : Bool := decide (r.Table ≥ 1) && decide (r.Seq ≥ 1)
def zw8 (p : List Term → Bool) : List (List Term) → Bool
 | [a] => p a
 | _ => false
def zHC (p : List Term → List Term → Bool) : List (List Term) → Bool
 | [a, b] => p a b
 | _ => false
def zeF (V : List Term → Bool) (x : Atom) : Bool :=
 zmg V x.Args &&
 if x.Kind = 0 then plA x && zzB x.Row && (x.Args.length == 0)
 else rz x.Row &&
  if x.Kind = 1 then plA x && zHC (fun a b => !decide (a = b)) x.Args
  else if x.Kind = 2 then plA x && zw8 (fun a => !isC a && !isU a) x.Args
  else if x.Kind = 3 then plA x && zw8 (fun a => !hasC a) x.Args
  else if x.Kind = 4 then (x.Args.length == 0) && decide (0 < x.Items.length) && ztX V x.Items && srtW x.Items && fitK x.Func x.Items x.Op x.Bound
  else false
def chkF (vat : Atom → Bool) (fs : List Factor) (k : Nat) : Bool :=
 decide (1 ≤ (fs.getD k default).Exp) && !(((fs.getD k default).Atom.Kind == 3 || (fs.getD k default).Atom.Kind == 4) && (fs.getD k default).Exp != 1) &&
  (decide (k = 0) || decide (cmpT (zdx (fs.getD (k - 1) default).Atom) (zdx (fs.getD k default).Atom) < 0)) && vat (fs.getD k default).Atom
def okF (vat : Atom → Bool) (fs : List Factor) : Bool := allN (chkF vat fs) fs.length 0
def chkT (vat : Atom → Bool) (a : List Term) (i : Nat) : Bool :=
 decide (1 ≤ (a.getD i default).Coeff) && decide ((a.getD i default).Coeff ≤ 1152921504606846976) &&
  (decide (i = 0) || decide (cmpL (zbp (a.getD (i - 1) default).Factors) (zbp (a.getD i default).Factors) < 0)) && okF vat (a.getD i default).Factors
def vAnn (vat : Atom → Bool) (a : List Term) : Bool := zhG a && allN (chkT vat a) a.length 0
def zbP : Nat → List Term → Bool
 | 0, _ => false
 | n + 1, a => vAnn (zeF (zbP n)) a
theorem zBT (r : RowID) : zmb r = (true, zzB r) := by
 unfold zmb zwC zzB
 rw [Wy.fin_i, Wy.fin_k, Wy.fin_k]
 cases decide (r.Table ≥ 1) <;> rfl
theorem zvH {V : List Term → Bool} {x : Atom} (h : zeF V x = true) : 0 ≤ x.Kind ∧ x.Kind ≤ 4 := by
 unfold zeF at h
 by_cases h0 : x.Kind = 0
 ·omega
 by_cases h1 : x.Kind = 1
 ·omega
 by_cases h2 : x.Kind = 2
 ·omega
 by_cases h3 : x.Kind = 3
 ·omega
 by_cases h4 : x.Kind = 4
 ·omega
 simp [h0, h1, h2, h3, h4] at h
theorem ztr (l k : Nat) : ((Int.ofNat l) == (k : Int)) = (l == k) := by
 rw [beqd, beqn]; congr 1; simp; omega
section
variable (V : List Term → Bool) (gW : List Weighted → Bool × Bool) (gA : List (List Term) → Bool × Bool) (c1 : List Term → Bool × Bool) (c2 : Weighted → Bool × Bool)
theorem zIy (x : Atom) {d : Nat} (hx : zdL (zA d) x) (hd : d ≤ 99) (hA : gA x.Args = (true, !zmg V x.Args)) (hW : gW x.Items = (true, !ztX V x.Items)) :
  zhV gW gA c1 c2 x = (true, zeF V x) := by
 have hS := zLT x.Items hx.1.2.1 (fun w hw => (hx.2.2 w hw).2) hd
 have hF := zML x.Func x.Items x.Op x.Bound hx.1.2.1
 have hE : ∀ a ∈ x.Args, ∀ b, zb0 a b = (true, decide (a = b)) := fun a ha b => zv9 (hx.2.1 a ha) (by omega) b
 have hC : ∀ a ∈ x.Args, zeb a = (true, hasC a) := fun a ha => zIC a (by
  have := hx.2.1 a ha
  cases d with
  | zero => exact this.elim
  | succ d => have := this.1; omega)
 obtain ⟨k, r, l, f, its, o, b⟩ := x
 simp only at hA hW hS hF hE hC
 unfold zhV zbK zeF plA
 simp only [zBT, hA, hW, hS, hF, Wy.fin_i, Wy.fin_k, Wy.fin_bn, cond_true]
 rw [show (b.Kind == (0 : Int) && (b.Int == (0 : Int) && (b.Text.toList == (ByteArray.mk #[]).toList && true))) = bz b from rfl,
  show (r.Table == (0 : Int) && (r.Seq == (0 : Int) && true)) = rz r from rfl,
  show (Int.ofNat its.length != 0) = !(its.length == 0) from congrArg not (ztr its.length 0), show (f != 0) = !(f == 0) from rfl, show (o != 0) = !(o == 0) from rfl]
 generalize zmg V l = A at *
 generalize ztX V its = W at *
 generalize bz b = B at *
 generalize (f == 0) = F at *
 generalize (o == 0) = O at *
 generalize rz r = R at *
 generalize zzB r = RO at *
 generalize srtW its = S at *
 generalize fitK f its o b = K at *
 have hgt : decide (Int.ofNat its.length > 0) = decide (0 < its.length) := zoy its.length 0
 rw [hgt]
 generalize (its.length == 0) = I at *
 generalize decide (0 < its.length) = J at *
 by_cases h0 : k = 0
 ·subst h0
  simp only [ztr, show ((Int.ofNat l.length) == (0 : Int)) = (l.length == 0) from ztr l.length 0]
  generalize (l.length == 0) = L
  cases F <;> cases I <;> cases O <;> cases B <;> cases A <;> cases RO <;> rfl
 by_cases h1 : k = 1
 ·subst h1
  match l, hE with
  | [], _ => cases F <;> cases I <;> cases O <;> cases B <;> cases A <;> cases R <;> rfl
  | [u], _ => cases F <;> cases I <;> cases O <;> cases B <;> cases A <;> cases R <;> rfl
  | [u, v], hE =>
   have e := hE u (by simp) v
   simp only [List.getD, List.length_cons, List.length_nil, Int.toNat_zero, List.getElem?_cons_zero, List.getElem?_cons_succ, Option.getD, show Int.toNat 1 = 1 from rfl, zHC]
   simp only [e]
   generalize decide (u = v) = E
   cases F <;> cases I <;> cases O <;> cases B <;> cases A <;> cases R <;> rfl
  | u :: v :: w :: l, _ =>
   have e : ((Int.ofNat (u :: v :: w :: l).length) == (2 : Int)) = false := by rw [beq_eq_false_iff_ne]; simp; omega
   simp only [e]
   cases F <;> cases I <;> cases O <;> cases B <;> cases A <;> cases R <;> rfl
 by_cases h2 : k = 2
 ·subst h2
  match l with
  | [] => cases F <;> cases I <;> cases O <;> cases B <;> cases A <;> cases R <;> rfl
  | [u] =>
   simp only [List.getD, List.length_cons, List.length_nil, Int.toNat_zero, List.getElem?_cons_zero, Option.getD, zw8, zJQ, zOl]
   generalize isC u = E
   generalize isU u = E'
   cases F <;> cases I <;> cases O <;> cases B <;> cases A <;> cases R <;> cases E <;> cases E' <;> rfl
  | u :: v :: l =>
   simp only [len2]
   cases F <;> cases I <;> cases O <;> cases B <;> cases A <;> cases R <;> rfl
 by_cases h3 : k = 3
 ·subst h3
  match l, hC with
  | [], _ => cases F <;> cases I <;> cases O <;> cases B <;> cases A <;> cases R <;> rfl
  | [u], hC =>
   have e := hC u (by simp)
   simp only [List.getD, List.length_cons, List.length_nil, Int.toNat_zero, List.getElem?_cons_zero, Option.getD, zw8]
   simp only [e]
   generalize hasC u = E
   cases F <;> cases I <;> cases O <;> cases B <;> cases A <;> cases R <;> cases E <;> rfl
  | u :: v :: l, _ =>
   simp only [len2]
   cases F <;> cases I <;> cases O <;> cases B <;> cases A <;> cases R <;> rfl
 by_cases h4 : k = 4
 ·subst h4
  simp only [show ((Int.ofNat l.length) == (0 : Int)) = (l.length == 0) from ztr l.length 0]
  generalize (l.length == 0) = L
  cases A <;> cases W <;> cases L <;> cases J <;> cases S <;> cases K <;> cases R <;> rfl
 simp only [beqd, h0, h1, h2, h3, h4, decide_false, if_false, cond_false]
 cases F <;> cases I <;> cases O <;> cases B <;> cases A <;> cases R <;> rfl
end
section
variable (V : List Term → Bool) (g : List Term → Bool × Bool)
theorem zRR (x : Atom) (hl : x.Args.length ≤ 1000000) (hg : ∀ a ∈ x.Args, g a = (true, V a)) (n : Nat) (hn : x.Args.length < n) : zpi g n 0 x = (true, bif zmg V x.Args then .inr x else .inl false) := by
 have := zdR (W := zvL g) (z := .inl default) x.Args.length (fun i => ((), (i : Int), ())) (fun _ => (x, ())) (fun i => (fun a : List Term => V a && !(a.length == 0)) (x.Args.getD i default)) (.inl false) (.inr x)
  (fun i hi H K D => by
   show (zi9 g i x).ev H K D = _
   unfold zi9
   have hL : decide ((i : Int) < Int.ofNat x.Args.length) = true := by simp [hi]
   simp only [Wy.ev_i, Wy.ev_k, Wy.ev_h, Wy.ev_bn, Wy.ev_d, hL, zfe, Bool.and_self, cond_true, Int.toNat_natCast, hg _ (zC hi)]
   rw [zY (by omega), show (Int.ofNat (x.Args.getD i default).length == (0 : Int)) = ((x.Args.getD i default).length == 0) from ztr _ 0]
   cases V (x.Args.getD i default) <;> cases ((x.Args.getD i default).length == 0) <;> rfl)
  (fun H K D => by
   show (zi9 g x.Args.length x).ev H K D = _
   unfold zi9
   have hL : decide ((x.Args.length : Int) < Int.ofNat x.Args.length) = false := by simp
   simp only [Wy.ev_i, Wy.ev_k, hL, cond_false]) n hn
 rw [zut (fun a : List Term => V a && !(a.length == 0))] at this
 exact this
theorem zPU {τ : Type} [Inhabited τ] (l : List τ) (i : Nat) (h : i < l.length) : List.take 1 (List.drop i l) = [l.getD i default] := by
 rw [zbF h]; rfl
theorem zRN (x y : TT) : cmpL [x] [y] = cmpT x y := by
 simp only [cmpL]
 split
 ·rename_i h; exact h.symm
 ·rfl
theorem zQ4 (x : Atom) {d : Nat} (hx : zdL (zA d) x) (hd : d ≤ 99) (hg : ∀ a ∈ x.Items, g a.Ann = (true, V a.Ann)) (n : Nat) (hn : x.Items.length < n) : zus g n 0 x = (true, bif ztX V x.Items && srtW x.Items then .inr () else .inl false) := by
 have hl : x.Items.length ≤ 1000000 := hx.1.2.1
 have := zdR (W := zuy g) (z := .inl default) x.Items.length (fun i => ((), (i : Int), ())) (fun _ => (x, ())) (fun i => (fun w : Weighted => V w.Ann && !(w.Ann.length == 0)) (x.Items.getD i default) && srtI x.Items i) (.inl false) (.inr ())
  (fun i hi H K D => by
   show (zin g i x).ev H K D = _
   unfold zin
   have hL : decide ((i : Int) < Int.ofNat x.Items.length) = true := by simp [hi]
   simp only [Wy.ev_i, Wy.ev_k, Wy.ev_h, Wy.ev_bn, Wy.ev_d, hL, zfe, Bool.and_self, cond_true, Int.toNat_natCast, hg _ (zC hi)]
   rw [zY (by omega), show (Int.ofNat (x.Items.getD i default).Ann.length == (0 : Int)) = ((x.Items.getD i default).Ann.length == 0) from ztr _ 0]
   cases V (x.Items.getD i default).Ann <;> cases ((x.Items.getD i default).Ann.length == 0) <;> try rfl
   simp only [cond_true, cond_false, Bool.not_true, Bool.not_false, Bool.and_self, Bool.true_and]
   cases i with
   | zero => rfl
   | succ i =>
    have hi' : i < x.Items.length := by omega
    have hw : IntKind.i64.wrap (((i + 1 : Nat) : Int) - 1) = (i : Int) := by rw [zrx (by omega) (by omega)]; rfl
    have e1 : (decide ((0 : Int) ≤ (i : Int)) && decide ((i : Int) ≤ ((i + 1 : Nat) : Int)) && decide (((i + 1 : Nat) : Int) ≤ Int.ofNat x.Items.length)) = true := by
     simp; try omega
    have e2 : (decide (((i + 1 : Nat) : Int) ≤ ((i + 1 + 1 : Nat) : Int)) && decide (((i + 1 + 1 : Nat) : Int) ≤ Int.ofNat x.Items.length)) = true := by
     simp; try omega
    have e3 : decide (((i + 1 : Nat) : Int) > 0) = true := by simp; try omega
    simp only [hw, e1, e2, e3, cond_true, Bool.true_and, Int.toNat_natCast, show i + 1 - i = 1 by omega, show i + 1 + 1 - (i + 1) = 1 by omega, zPU _ _ hi, zPU _ _ hi']
    rw [zCN (d := d) (by simp) (fun w hw => by
     rw [List.mem_singleton] at hw; subst hw; exact (hx.2.2 _ (zC hi')).2) hd, znD, znD]
    simp only [List.map, zRN, cond_true, srtI, show i + 1 - 1 = i from rfl]
    have e4 : decide (i + 1 = 0) = false := by simp
    rw [e4, Bool.false_or]
    generalize cmpT (ze8 (x.Items.getD i default)) (ze8 (x.Items.getD (i + 1) default)) = z
    by_cases hz : z > 0
    ·have : ¬ z ≤ 0 := by omega
     simp only [hz, this, decide_true, decide_false, cond_true, cond_false]
    ·have : z ≤ 0 := by omega
     simp only [hz, this, decide_true, decide_false, cond_true, cond_false])
  (fun H K D => by
   show (zin g x.Items.length x).ev H K D = _
   unfold zin
   have hL : decide ((x.Items.length : Int) < Int.ofNat x.Items.length) = false := by simp
   simp only [Wy.ev_i, Wy.ev_k, hL, cond_false]) n hn
 rw [zLb (fun i => (fun w : Weighted => V w.Ann && !(w.Ann.length == 0)) (x.Items.getD i default)), zut (fun w : Weighted => V w.Ann && !(w.Ann.length == 0))] at this
 exact this
theorem zF0 {A ρ : Type} (s : A) (k : A → Wy0 ρ) (z : ρ) : (Wy.bn (true, s) k).fin z = (k s).fin z := rfl
theorem zH9 (x : Atom) {d : Nat} (hx : zdL (zA d) x) (hd : d ≤ 99) (h10 : x.Items.length ≤ 1024) (hV : ∀ a, V a = true → isB a = isU a) (hgA : ∀ a ∈ x.Args, g a = (true, V a)) (hgI : ∀ a ∈ x.Items, g a.Ann = (true, V a.Ann)) :
  znY g x = (true, zeF V x) := by
 have hS := fun n hn => zQ4 V g x hx hd hgI n hn
 have hA := fun n hn => zRR V g x hx.1.1 hgA n hn
 have hF := zPC x.Func x.Items x.Op x.Bound hx.1.2.1
 have hE : ∀ a ∈ x.Args, ∀ b, zvO a b = (true, decide (a = b)) := fun a ha b => zEf (hx.2.1 a ha) (by omega) b
 have hC : ∀ a ∈ x.Args, zog a = (true, hasC a) := fun a ha => zGg a (by
  have := hx.2.1 a ha
  cases d with
  | zero => exact this.elim
  | succ d => have := this.1; omega)
 have hP := zPl x
 unfold znY zwl zeF
 obtain ⟨s, hs1, hs2⟩ : ∃ s, zpi g ((Int.toNat (0 : Int) + (1 : Nat)) + x.Args.length + x.Items.length) 0 x = (true, s) ∧ s = bif zmg V x.Args then .inr x else .inl false := ⟨_, hA _ (by omega), rfl⟩
 rw [Atom.eta, hP, hs1]
 simp only [Wy.fin_i, Wy.fin_k, zF0]
 simp only [Wy.fin_i, Wy.fin_k, Wy.fin_bn, cond_true]
 rw [show (x.Row.Table == (0 : Int) && (x.Row.Seq == (0 : Int) && true)) = rz x.Row from rfl]
 have b0 : (x.Kind == (0 : Int)) = decide (x.Kind = 0) := beqd _ _
 have b1 : (x.Kind == (1 : Int)) = decide (x.Kind = 1) := beqd _ _
 have b2 : (x.Kind == (2 : Int)) = decide (x.Kind = 2) := beqd _ _
 have b3 : (x.Kind == (3 : Int)) = decide (x.Kind = 3) := beqd _ _
 have b4 : (x.Kind == (4 : Int)) = decide (x.Kind = 4) := beqd _ _
 by_cases h0 : x.Kind = 0
 ·rw [b0]
  simp only [h0, decide_true, cond_true, if_true]
  rw [show (Int.ofNat x.Args.length == (0 : Int)) = (x.Args.length == 0) from ztr _ 0]
  unfold zzB
  match hl : x.Args with
  | [] => cases decide (x.Row.Table ≥ 1) <;> cases decide (x.Row.Seq ≥ 1) <;> cases plA x <;> rfl
  | u :: l => cases decide (x.Row.Table ≥ 1) <;> cases decide (x.Row.Seq ≥ 1) <;> cases plA x <;> cases zmg V (u :: l) <;> rfl
 rw [b0]
 simp only [h0, decide_false, cond_false, if_false]
 cases hA : zmg V x.Args with
 | false => rw [hs2, hA]; cases rz x.Row <;> rfl
 | true =>
 rw [hA, cond_true] at hs2
 have hy : getR s = x := by rw [hs2]; rfl
 have hy2 : isL s = false := by rw [hs2]; rfl
 rw [hy2]
 generalize getR s = y at hy ⊢
 subst hy
 cases rz y.Row with
 | false => rfl
 | true =>
 simp only [Bool.not_true, cond_false, cond_true, isL, getR, Bool.true_and, Atom.eta, hP, hF, b1, b2, b3, b4]
 by_cases h1 : y.Kind = 1
 ·simp only [h1, decide_true, cond_true, if_true]
  match hl : y.Args with
  | [] => cases plA y <;> rfl
  | [u] => cases plA y <;> rfl
  | [u, v] =>
   have e := hE u (by rw [hl]; simp) v
   simp only [List.getD, List.length_cons, List.length_nil, Int.toNat_zero, List.getElem?_cons_zero, List.getElem?_cons_succ, Option.getD, show Int.toNat 1 = 1 from rfl, zHC]
   simp only [e]
   generalize decide (u = v) = E
   cases plA y <;> rfl
  | u :: v :: w :: l =>
   have e : ((Int.ofNat (u :: v :: w :: l).length) == (2 : Int)) = false := by rw [beq_eq_false_iff_ne]; simp; omega
   simp only [e]
   cases plA y <;> rfl
 simp only [h1, decide_false, cond_false, if_false]
 by_cases h2 : y.Kind = 2
 ·simp only [h2, decide_true, cond_true, if_true]
  match hl : y.Args with
  | [] => cases plA y <;> rfl
  | [u] =>
   have e := hC u (by rw [hl]; simp)
   have eV : V u = true := by
    rw [hl] at hA
    unfold zmg at hA
    simp at hA
    exact hA.1
   simp only [List.getD, List.length_cons, List.length_nil, Int.toNat_zero, List.getElem?_cons_zero, Option.getD, zw8, zHj, e, hV u eV]
   match u with
   | [] => cases plA y <;> rfl
   | [t] =>
    have e1 : hasC [t] = (t.Factors.length == 0) := by simp [hasC]
    have e2 : isC [t] = (t.Factors.length == 0) := rfl
    rw [e1, e2]
    cases plA y <;> cases (t.Factors.length == 0) <;> cases isU [t] <;> rfl
   | t :: s :: r =>
    simp only [len2]
    cases plA y <;> rfl
  | u :: v :: l =>
   simp only [len2]
   cases plA y <;> rfl
 simp only [h2, decide_false, cond_false, if_false]
 by_cases h3 : y.Kind = 3
 ·simp only [h3, decide_true, cond_true, if_true]
  match hl : y.Args with
  | [] => cases plA y <;> rfl
  | [u] =>
   have e := hC u (by rw [hl]; simp)
   simp only [List.getD, List.length_cons, List.length_nil, Int.toNat_zero, List.getElem?_cons_zero, Option.getD, zw8]
   simp only [e]
   cases plA y <;> cases hasC u <;> rfl
  | u :: v :: l =>
   simp only [len2]
   cases plA y <;> rfl
 simp only [h3, decide_false, cond_false, if_false]
 by_cases h4 : y.Kind = 4
 ·have e10 : decide (Int.ofNat y.Items.length > (1024 : Int)) = false := by simp; omega
  rw [hS _ (by omega)]
  rw [e10]
  simp only [h4, decide_true, cond_true, if_true, cond_false]
  rw [show (Int.ofNat y.Args.length != (0 : Int)) = !(y.Args.length == 0) from congrArg not (ztr y.Args.length 0), show (Int.ofNat y.Items.length == (0 : Int)) = (y.Items.length == 0) from ztr y.Items.length 0]
  have e11 : decide (0 < y.Items.length) = !(y.Items.length == 0) := by
   rw [beqn]
   by_cases h : y.Items.length = 0
   ·simp [h]
   ·have : 0 < y.Items.length := by omega
    simp [h, this]
  rw [e11]
  cases (y.Args.length == 0) <;> cases (y.Items.length == 0) <;> cases fitK y.Func y.Items y.Op y.Bound <;> cases ztX V y.Items <;> cases srtW y.Items <;> rfl
 simp only [h4, decide_false, cond_false, if_false]
end
section
variable (V : List Term → Bool) (vat : Atom → Bool)
theorem V_9 (g : Atom → Bool × Bool) (a t10 : List Term) (t11 t12 : Int) (t : Term) {d : Nat} (ht : zfi (zA d) t.Factors) (hd : d ≤ 99) (hg : ∀ f ∈ t.Factors, g f.Atom = (true, vat f.Atom)) (n : Nat) (hn : t.Factors.length < n) :
  zob g n a t10 t11 t12 t.Factors t.Factors.length 0 t = (true, bif okF vat t.Factors then .inr (a, t10, t11, t12) else .inl false) := by
 have hl := ht.1
 exact zdR (W := zkS g) (z := .inl default) t.Factors.length (fun k => (a, (), t10, t11, t12, t.Factors, (t.Factors.length : Int), (k : Int), ())) (fun _ => (t, ())) (chkF vat t.Factors) (.inl false) (.inr (a, t10, t11, t12))
  (fun k hk H K D => by
   show (zie g a t10 t11 t12 t.Factors t.Factors.length k t).ev H K D = _
   unfold zie chkF
   have hgt : decide ((k : Int) > 0) = !decide (k = 0) := by
    by_cases h : k = 0
    ·subst h; rfl
    ·have : 0 < k := by omega
     simp [h, this]
   simp only [Atom.eta, Wy.ev_i, Wy.ev_k, Wy.ev_h, Wy.ev_bn, Wy.ev_d, tT, hk, zIw, hg _ (zC hk), hgt]
   rw [zY (by omega)]
   have e1 : decide ((t.Factors.getD k default).Exp < 1) = !decide (1 ≤ (t.Factors.getD k default).Exp) := by
    by_cases h : 1 ≤ (t.Factors.getD k default).Exp
    ·have : ¬ (t.Factors.getD k default).Exp < 1 := by omega
     simp only [h, this, decide_true, decide_false, Bool.not_true]
    ·have : (t.Factors.getD k default).Exp < 1 := by omega
     simp only [h, this, decide_true, decide_false, Bool.not_false]
   rw [e1]
   generalize decide (1 ≤ (t.Factors.getD k default).Exp) = E1
   generalize ((t.Factors.getD k default).Exp != 1) = E2
   generalize ((t.Factors.getD k default).Atom.Kind == 3 || (t.Factors.getD k default).Atom.Kind == 4) = E3
   by_cases h0 : k = 0
   ·simp only [h0, decide_true, Bool.not_true, cond_false, Bool.true_or, Bool.and_true]
    cases E1 <;> cases E2 <;> cases E3 <;> cases vat (t.Factors.getD 0 default).Atom <;> rfl
   ·have hp : IntKind.i64.wrap ((k : Int) - 1) = ((k - 1 : Nat) : Int) := zrx (by omega) (by omega)
    have hk' : k - 1 < t.Factors.length := by omega
    have hfx : zdL (zA d) (t.Factors.getD (k - 1) default).Atom := ht.2 _ (zC hk')
    have e2 : ∀ z : Int, decide (z ≥ 0) = !decide (z < 0) := fun z => by
     by_cases h : z < 0
     ·have : ¬ z ≥ 0 := by omega
      simp [h, this]
     ·have : z ≥ 0 := by omega
      simp [h, this]
    simp only [h0, hp, tT, hk', zpA hfx hd, e2, Bool.false_or]
    generalize decide (cmpT (zdx (t.Factors.getD (k - 1) default).Atom) (zdx (t.Factors.getD k default).Atom) < 0) = E4
    cases E1 <;> cases E2 <;> cases E3 <;> cases E4 <;> cases vat (t.Factors.getD k default).Atom <;> rfl)
  (fun H K D => by
   show (zie g a t10 t11 t12 t.Factors t.Factors.length t.Factors.length t).ev H K D = _
   unfold zie
   simp only [Wy.ev_i, Wy.ev_k, tT, Nat.lt_irrefl]) n hn
theorem V_4 (g : Atom → Bool × Bool) (a : List Term) {d : Nat} (h : zA (d + 1) a) (hd : d ≤ 99) (hg : ∀ t ∈ a, ∀ f ∈ t.Factors, g f.Atom = (true, vat f.Atom)) (n : Nat) (hn : a.length < n) :
  zt5 g n a a a.length 0 = (true, bif allN (chkT vat a) a.length 0 then .inr () else .inl false) := by
 have hl := h.1
 exact zdR (W := zkO g) (z := .inl default) a.length (fun k => (a, a, (a.length : Int), (k : Int), ())) (fun _ => ()) (chkT vat a) (.inl false) (.inr ())
  (fun k hk H K D => by
   show (zim g a a a.length k).ev H K D = _
   unfold zim chkT
   have ht := h.2 _ (zC hk)
   have hgt : decide ((k : Int) > 0) = !decide (k = 0) := by
    by_cases h : k = 0
    ·subst h; rfl
    ·have : 0 < k := by omega
     simp [h, this]
   simp only [Atom.eta, Wy.ev_i, Wy.ev_k, Wy.ev_h, Wy.ev_bn, Wy.ev_d, tT, hk, hgt]
   rw [V_9 vat g a a a.length k _ ht hd (hg _ (zC hk)) _ (by omega)]
   have e1 : decide ((a.getD k default).Coeff < 1) = !decide (1 ≤ (a.getD k default).Coeff) := by
    by_cases h : 1 ≤ (a.getD k default).Coeff
    ·have : ¬ (a.getD k default).Coeff < 1 := by omega
     simp only [h, this, decide_true, decide_false, Bool.not_true]
    ·have : (a.getD k default).Coeff < 1 := by omega
     simp only [h, this, decide_true, decide_false, Bool.not_false]
   have e3 : decide ((a.getD k default).Coeff > 1152921504606846976) = !decide ((a.getD k default).Coeff ≤ 1152921504606846976) := by
    by_cases h : (a.getD k default).Coeff ≤ 1152921504606846976
    ·have : ¬ (a.getD k default).Coeff > 1152921504606846976 := by omega
     simp only [h, this, decide_true, decide_false, Bool.not_true]
    ·have : (a.getD k default).Coeff > 1152921504606846976 := by omega
     simp only [h, this, decide_true, decide_false, Bool.not_false]
   rw [e1, e3]
   generalize decide (1 ≤ (a.getD k default).Coeff) = E1
   generalize decide ((a.getD k default).Coeff ≤ 1152921504606846976) = E2
   by_cases h0 : k = 0
   ·subst h0
    simp only [decide_true, Bool.not_true, cond_false, Bool.true_or, Bool.and_true]
    cases okF vat (a.getD 0 default).Factors <;> cases E1 <;> cases E2 <;> try rfl
   ·have hp : IntKind.i64.wrap ((k : Int) - 1) = ((k - 1 : Nat) : Int) := zrx (by omega) (by omega)
    have hk' : k - 1 < a.length := by omega
    have hfx : zfi (zA d) (a.getD (k - 1) default).Factors := h.2 _ (zC hk')
    have e2 : ∀ z : Int, decide (z ≥ 0) = !decide (z < 0) := fun z => by
     by_cases h : z < 0
     ·have : ¬ z ≥ 0 := by omega
      simp [h, this]
     ·have : z ≥ 0 := by omega
      simp [h, this]
    simp only [h0, hp, tT, hk', zpF hfx hd, e2, Bool.false_or]
    generalize decide (cmpL (zbp (a.getD (k - 1) default).Factors) (zbp (a.getD k default).Factors) < 0) = E4
    cases okF vat (a.getD k default).Factors <;> cases E1 <;> cases E2 <;> cases E4 <;> try rfl
    simp only [cond_true, cond_false, Bool.not_true, isL, getR, Bool.and_self]
    rw [zY (by omega), decide_eq_false (show ¬ ((k - 1 : Nat) : Int) < 0 by omega)]; rfl)
  (fun H K D => by
   show (zim g a a a.length a.length).ev H K D = _
   unfold zim
   simp only [Wy.ev_i, Wy.ev_k, tT, Nat.lt_irrefl]) n hn
theorem zNp (g : Atom → Bool × Bool) (a : List Term) {d : Nat} (h : zA (d + 1) a) (hd : d ≤ 99) (hs : zK a ≤ 4611686018427387904) (hg : ∀ t ∈ a, ∀ f ∈ t.Factors, g f.Atom = (true, vat f.Atom)) : zkB g a = (true, vAnn vat a) := by
 unfold zkB zpd vAnn
 have := V_4 vat g a h hd hg (a.length + a.length + (Int.ofNat a.length).toNat + Int.toNat (0 : Int) + (1 : Nat)) (by omega)
 rw [show Int.ofNat a.length = (a.length : Int) from rfl] at *
 simp only [Wy.fin_i, Wy.fin_k, Wy.fin_bn, zJK h (by omega) hs, this, cond_true]
 cases zhG a <;> cases allN (chkT vat a) a.length 0 <;> rfl
theorem zRI (g : Atom → Bool × Bool) (a : List Term) (i : Int) (t : Term) {d : Nat} (ht : zfi (zA d) t.Factors) (hd : d ≤ 99) (hg : ∀ f ∈ t.Factors, g f.Atom = (true, vat f.Atom)) (hk : ∀ x, vat x = true → 0 ≤ x.Kind ∧ x.Kind ≤ 4) (n : Nat) (hn : t.Factors.length < n) :
  zsr g n a i 0 t = (true, bif okF vat t.Factors then .inr (a, i) else .inl false) := by
 have hl := ht.1
 exact zdR (W := zyV g) (z := .inl default) t.Factors.length (fun k => (a, i, (), (k : Int), ())) (fun _ => (t, ())) (chkF vat t.Factors) (.inl false) (.inr (a, i))
  (fun k hk1 H K D => by
   show (zlc g a i k t).ev H K D = _
   unfold zlc chkF
   have hgt : decide ((k : Int) > 0) = !decide (k = 0) := by
    by_cases h : k = 0
    ·subst h; rfl
    ·have : 0 < k := by omega
     simp [h, this]
   simp only [Atom.eta, Wy.ev_i, Wy.ev_k, Wy.ev_h, Wy.ev_bn, Wy.ev_d, tT, hk1, hg _ (zC hk1), hgt]
   rw [zY (by omega)]
   have hk2 := hk (t.Factors.getD k default).Atom
   have e1 : decide ((t.Factors.getD k default).Exp < 1) = !decide (1 ≤ (t.Factors.getD k default).Exp) := by
    by_cases h : 1 ≤ (t.Factors.getD k default).Exp
    ·have : ¬ (t.Factors.getD k default).Exp < 1 := by omega
     simp only [h, this, decide_true, decide_false, Bool.not_true]
    ·have : (t.Factors.getD k default).Exp < 1 := by omega
     simp only [h, this, decide_true, decide_false, Bool.not_false]
   rw [e1]
   by_cases hx1 : 1 ≤ (t.Factors.getD k default).Exp
   rotate_left
   ·simp only [hx1, decide_false, Bool.not_false, cond_true, Bool.false_and, cond_false]
   cases hv : vat (t.Factors.getD k default).Atom with
   | false =>
    rw [Bool.and_false]
    cases decide (1 ≤ (t.Factors.getD k default).Exp) <;> cases decide ((t.Factors.getD k default).Exp > 1) <;> cases decide ((t.Factors.getD k default).Atom.Kind ≥ 3) <;> rfl
   | true =>
   obtain ⟨k1, k2⟩ := hk2 hv
   have e5 : ((t.Factors.getD k default).Atom.Kind == 3 || (t.Factors.getD k default).Atom.Kind == 4) = decide ((t.Factors.getD k default).Atom.Kind ≥ 3) := by
    rw [beqd, beqd, ← Bool.decide_or]
    congr 1
    apply propext; omega
   have e6 : ((t.Factors.getD k default).Exp != 1) = decide ((t.Factors.getD k default).Exp > 1) := by
    rw [bne0, ← decide_not]
    congr 1
    apply propext; omega
   rw [e5, e6]
   simp only [hx1, decide_true, Bool.not_true, cond_false, Bool.true_and]
   generalize decide ((t.Factors.getD k default).Exp > 1) = E2
   generalize decide ((t.Factors.getD k default).Atom.Kind ≥ 3) = E3
   by_cases h0 : k = 0
   ·simp only [h0, decide_true, Bool.not_true, cond_false, Bool.true_or, Bool.and_true]
    cases E2 <;> cases E3 <;> rfl
   ·have hp : IntKind.i64.wrap ((k : Int) - 1) = ((k - 1 : Nat) : Int) := zrx (by omega) (by omega)
    have hk' : k - 1 < t.Factors.length := by omega
    have hfx : zdL (zA d) (t.Factors.getD (k - 1) default).Atom := ht.2 _ (zC hk')
    have e2 : ∀ z : Int, decide (z ≥ 0) = !decide (z < 0) := fun z => by
     by_cases h : z < 0
     ·have : ¬ z ≥ 0 := by omega
      simp [h, this]
     ·have : z ≥ 0 := by omega
      simp [h, this]
    simp only [h0, hp, tT, hk', zo4 hfx hd, e2, Bool.false_or]
    generalize decide (cmpT (zdx (t.Factors.getD (k - 1) default).Atom) (zdx (t.Factors.getD k default).Atom) < 0) = E4
    cases E2 <;> cases E3 <;> cases E4 <;> rfl)
  (fun H K D => by
   show (zlc g a i t.Factors.length t).ev H K D = _
   unfold zlc
   simp only [Wy.ev_i, Wy.ev_k, tT, Nat.lt_irrefl]) n hn
theorem RV_4 (g : Atom → Bool × Bool) (a : List Term) {d : Nat} (h : zA (d + 1) a) (hd : d ≤ 99) (hg : ∀ t ∈ a, ∀ f ∈ t.Factors, g f.Atom = (true, vat f.Atom)) (hk : ∀ x, vat x = true → 0 ≤ x.Kind ∧ x.Kind ≤ 4) (n : Nat) (hn : a.length < n) :
  zzS g n a 0 = (true, bif allN (chkT vat a) a.length 0 then .inr () else .inl false) := by
 have hl := h.1
 exact zdR (W := zzQ g) (z := .inl default) a.length (fun k => (a, (k : Int), ())) (fun _ => ()) (chkT vat a) (.inl false) (.inr ())
  (fun k hk1 H K D => by
   show (zmr g a k).ev H K D = _
   unfold zmr chkT
   have ht := h.2 _ (zC hk1)
   have hgt : decide ((k : Int) > 0) = !decide (k = 0) := by
    by_cases h : k = 0
    ·subst h; rfl
    ·have : 0 < k := by omega
     simp [h, this]
   simp only [Atom.eta, Wy.ev_i, Wy.ev_k, Wy.ev_h, Wy.ev_bn, Wy.ev_d, tT, hk1, hgt]
   rw [zRI vat g a k _ ht hd (hg _ (zC hk1)) hk _ (by omega)]
   have e1 : decide ((a.getD k default).Coeff < 1) = !decide (1 ≤ (a.getD k default).Coeff) := by
    by_cases h : 1 ≤ (a.getD k default).Coeff
    ·have : ¬ (a.getD k default).Coeff < 1 := by omega
     simp only [h, this, decide_true, decide_false, Bool.not_true]
    ·have : (a.getD k default).Coeff < 1 := by omega
     simp only [h, this, decide_true, decide_false, Bool.not_false]
   have e3 : decide ((a.getD k default).Coeff > 1152921504606846976) = !decide ((a.getD k default).Coeff ≤ 1152921504606846976) := by
    by_cases h : (a.getD k default).Coeff ≤ 1152921504606846976
    ·have : ¬ (a.getD k default).Coeff > 1152921504606846976 := by omega
     simp only [h, this, decide_true, decide_false, Bool.not_true]
    ·have : (a.getD k default).Coeff > 1152921504606846976 := by omega
     simp only [h, this, decide_true, decide_false, Bool.not_false]
   rw [e1, e3]
   generalize decide (1 ≤ (a.getD k default).Coeff) = E1
   generalize decide ((a.getD k default).Coeff ≤ 1152921504606846976) = E2
   by_cases h0 : k = 0
   ·subst h0
    simp only [decide_true, Bool.not_true, cond_false, Bool.true_or, Bool.and_true]
    cases okF vat (a.getD 0 default).Factors <;> cases E1 <;> cases E2 <;> try rfl
   ·have hp : IntKind.i64.wrap ((k : Int) - 1) = ((k - 1 : Nat) : Int) := zrx (by omega) (by omega)
    have hk' : k - 1 < a.length := by omega
    have hfx : zfi (zA d) (a.getD (k - 1) default).Factors := h.2 _ (zC hk')
    have e2 : ∀ z : Int, decide (z ≥ 0) = !decide (z < 0) := fun z => by
     by_cases h : z < 0
     ·have : ¬ z ≥ 0 := by omega
      simp [h, this]
     ·have : z ≥ 0 := by omega
      simp [h, this]
    simp only [h0, hp, tT, hk', zm1 hfx hd, e2, Bool.false_or]
    generalize decide (cmpL (zbp (a.getD (k - 1) default).Factors) (zbp (a.getD k default).Factors) < 0) = E4
    cases okF vat (a.getD k default).Factors <;> cases E1 <;> cases E2 <;> cases E4 <;> try rfl
    simp only [cond_true, cond_false, Bool.not_true, isL, getR, Bool.and_self]
    rw [zY (by omega), decide_eq_false (show ¬ ((k - 1 : Nat) : Int) < 0 by omega)]; rfl)
  (fun H K D => by
   show (zmr g a a.length).ev H K D = _
   unfold zmr
   simp only [Wy.ev_i, Wy.ev_k, tT, Nat.lt_irrefl]) n hn
theorem zLE (g : Atom → Bool × Bool) (a : List Term) {d : Nat} (h : zA (d + 1) a) (hd : d ≤ 99) (hs : zK a ≤ 4611686018427387904) (hg : zhG a = true → ∀ t ∈ a, ∀ f ∈ t.Factors, g f.Atom = (true, vat f.Atom)) (hk : ∀ x, vat x = true → 0 ≤ x.Kind ∧ x.Kind ≤ 4) : ztq g a = (true, vAnn vat a) := by
 unfold ztq zBW vAnn
 rw [Wy.fin_bn, zL7 h (by omega) hs]
 cases hw : zhG a with
 | false => rfl
 | true =>
  have := RV_4 vat g a h hd (hg hw) hk ((a.length + Int.toNat (0 : Int) + (1 : Nat)) + szTs a) (by omega)
  simp only [Wy.fin_i, Wy.fin_k, Wy.fin_bn, this, cond_true]
  cases allN (chkT vat a) a.length 0 <;> rfl
end
theorem zGm {l : List (List Term)} {a : List Term} (h : a ∈ l) : zK a ≤ zfh l := by
 induction l with
 | nil => cases h
 | cons b r ih =>
  rw [zex]
  rcases List.mem_cons.1 h with rfl | h
  ·omega
  ·have := ih h; omega
theorem zE5 {l : List Weighted} {w : Weighted} (h : w ∈ l) : zK w.Ann ≤ zdt l := by
 induction l with
 | nil => cases h
 | cons b r ih =>
  rw [zh0]
  rcases List.mem_cons.1 h with rfl | h
  ·omega
  ·have := ih h; omega
theorem zKN {m : Nat} {a : List Term} (h : zbP m a = true) : isB a = isU a := by
 cases m with
 | zero => cases h
 | succ m =>
 match a with
 | [] => rfl
 | [t] =>
  simp only [zbP, vAnn, Bool.and_eq_true] at h
  have h1 := zea.1 h.2 0 (by omega) (by simp)
  simp only [chkT, Bool.and_eq_true] at h1
  have h2 := h1.2
  obtain ⟨c, fs⟩ := t
  match fs with
  | [] => rfl
  | [f] =>
   have h3 := zea.1 h2 0 (by omega) (by simp)
   simp only [chkF, Bool.and_eq_true] at h3
   have h4 := zvH h3.2
   simp only [List.getD_cons_zero] at h4
   show (c == 1 && (f.Exp == 1 && decide (2 ≤ f.Atom.Kind))) = (c == 1 && (f.Exp == 1 && (f.Atom.Kind == 2 || f.Atom.Kind == 3 || f.Atom.Kind == 4)))
   have e : decide (2 ≤ f.Atom.Kind) = (f.Atom.Kind == 2 || f.Atom.Kind == 3 || f.Atom.Kind == 4) := by
    rw [beqd, beqd, beqd, ← Bool.decide_or, ← Bool.decide_or]
    congr 1
    apply propext; omega
   rw [e]
  | f :: f' :: r => rfl
 | t :: u :: r => rfl
theorem zRx (g) (l : List (List Term)) : zb7 g l = IG (fun (_ : Unit) x => g x) (l.length + (Int.ofNat l.length).toNat + Int.toNat (0 : Int) + (1 : Nat)) () l := rfl
theorem zRF (g) (l : List Weighted) : zcn g l = IG (fun (_ : Unit) x => g x) (l.length + (Int.ofNat l.length).toNat + Int.toNat (0 : Int) + (1 : Nat)) () l := rfl
theorem zBx : ∀ n,
  (∀ d m a, zA d a → 10 * d ≤ n → d ≤ m → d ≤ 100 → zK a ≤ 4611686018427387904 → zio n a = (true, zbP m a)) ∧
  (∀ d m x, zdL (zA d) x → 10 * d + 9 ≤ n → d ≤ m → d ≤ 99 → zeS x ≤ 4611686018427387904 → zka n x = (true, zeF (zbP m) x)) ∧
  (∀ d m a, zA d a → 10 * d + 6 ≤ n → d ≤ m → d ≤ 99 → zK a ≤ 4611686018427387904 → zeg n a = (true, !(zbP m a && !(a.length == 0)))) ∧
  (∀ d m (w : Weighted), zA d w.Ann → 10 * d + 6 ≤ n → d ≤ m → d ≤ 99 → zK w.Ann ≤ 4611686018427387904 → zee n w = (true, !(zbP m w.Ann && !(w.Ann.length == 0)))) ∧
  (∀ d m (l : List (List Term)), l.length ≤ 1000000 → (∀ a ∈ l, zA d a ∧ zK a ≤ 4611686018427387904) → 10 * d + 7 ≤ n → d ≤ m → d ≤ 99 → zb5 n l = (true, ixf (fun a => !(zbP m a && !(a.length == 0))) l 0)) ∧
  (∀ d m (l : List (List Term)), l.length ≤ 1000000 → (∀ a ∈ l, zA d a ∧ zK a ≤ 4611686018427387904) → 10 * d + 8 ≤ n → d ≤ m → d ≤ 99 → zbS n l = (true, !zmg (zbP m) l)) ∧
  (∀ d m (l : List Weighted), l.length ≤ 1000000 → (∀ a ∈ l, zA d a.Ann ∧ zK a.Ann ≤ 4611686018427387904) → 10 * d + 7 ≤ n → d ≤ m → d ≤ 99 → zco n l = (true, ixf (fun a => !(zbP m a.Ann && !(a.Ann.length == 0))) l 0)) ∧
  (∀ d m (l : List Weighted), l.length ≤ 1000000 → (∀ a ∈ l, zA d a.Ann ∧ zK a.Ann ≤ 4611686018427387904) → 10 * d + 8 ≤ n → d ≤ m → d ≤ 99 → zcc n l = (true, !ztX (zbP m) l))
 | 0 => by
  refine ⟨?_, ?_, ?_, ?_, ?_, ?_, ?_, ?_⟩
  ·intro d m a h hd; have : d = 0 := by omega
   subst this; exact h.elim
  all_goals (intros; omega)
 | n + 1 => by
  obtain ⟨h1, h2, h3, h4, h5, h6, h7, h8⟩ := zBx n
  refine ⟨?_, ?_, ?_, ?_, ?_, ?_, ?_, ?_⟩
  ·intro d m a h hd hm hd2 hs
   cases d with
   | zero => exact h.elim
   | succ d =>
    cases m with
    | zero => omega
    | succ m =>
     rw [zCK]
     exact zNp _ _ a h (by omega) hs fun t ht f hf => h2 d m f.Atom ((h.2 t ht).2 f hf) (by omega) (by omega) (by omega) (by
      have := zIz ht hf; rw [ziQ]; omega)
  ·intro d m x h hd hm hd2 hs
   rw [zzE]
   rw [ziQ] at hs
   exact zIy _ _ _ _ _ x h hd2 (h6 d m _ h.1.1 (fun a ha => ⟨h.2.1 a ha, by have := zGm ha; omega⟩) (by omega) hm hd2)
    (h8 d m _ h.1.2.1 (fun a ha => ⟨(h.2.2 a ha).2, by have := zE5 ha; omega⟩) (by omega) hm hd2)
  ·intro d m a h hd hm hd2 hs
   rw [zw5]
   unfold ziu zkH
   rw [Wy.fin_bn, h1 d m a h (by omega) hm (by omega) hs]
   simp only [cond_true, Wy.fin_i, Wy.fin_k, show (Int.ofNat a.length == (0 : Int)) = (a.length == 0) from ztr a.length 0]
   cases zbP m a <;> simp
  ·intro d m a h hd hm hd2 hs
   rw [zwN]
   unfold zir zkv
   rw [Wy.fin_bn, h1 d m a.Ann h (by omega) hm (by omega) hs]
   simp only [cond_true, Wy.fin_i, Wy.fin_k, show (Int.ofNat a.Ann.length == (0 : Int)) = (a.Ann.length == 0) from ztr a.Ann.length 0]
   cases zbP m a.Ann <;> simp
  ·intro d m l hl h hd hm hd2
   rw [zki, zRx]
   exact zHL _ _ _ _ _ (by omega) (fun x hx => h3 d m x (h x hx).1 (by omega) hm hd2 (h x hx).2) (by omega)
  ·intro d m l hl h hd hm hd2
   rw [zjv]
   unfold zbT zcF
   rw [zpT (h5 d m l hl h (by omega) hm hd2)]
   simp [zmg, List.all_eq_not_any_not]
  ·intro d m l hl h hd hm hd2
   rw [zlo, zRF]
   exact zHL _ _ _ _ _ (by omega) (fun x hx => h4 d m x (h x hx).1 (by omega) hm hd2 (h x hx).2) (by omega)
  ·intro d m l hl h hd hm hd2
   rw [zkI]
   unfold zcd zc3
   rw [zpT (h7 d m l hl h (by omega) hm hd2)]
   simp [ztX, List.all_eq_not_any_not]
theorem zLI {a : List Term} (h : zhG a = true) {t : Term} (ht : t ∈ a) {f : Factor} (hf : f ∈ t.Factors) : f.Atom.Items.length ≤ 1024 ∧ f.Exp ≤ 64 ∧ t.Factors.length ≤ 64 := by
 simp only [zhG, Bool.and_eq_true, List.all_eq_true] at h
 have := h.2 t ht
 simp only [withF, Bool.not_eq_true', Bool.or_eq_false_iff, decide_eq_false_iff_not, List.any_eq_false] at this
 have h2 := this.2 f hf
 simp at h2
 omega
theorem zHH : ∀ n,
  (∀ d m a, zA d a → 3 * d ≤ n → d ≤ m → d ≤ 100 → zK a ≤ 4611686018427387904 → zts n a = (true, zbP m a)) ∧
  (∀ d m x, zdL (zA d) x → 3 * d + 2 ≤ n → d ≤ m → d ≤ 99 → zeS x ≤ 4611686018427387904 → x.Items.length ≤ 1024 → zsD n x = (true, zeF (zbP m) x))
 | 0 => by
  refine ⟨?_, ?_⟩
  ·intro d m a h hd; have : d = 0 := by omega
   subst this; exact h.elim
  ·intros; omega
 | n + 1 => by
  obtain ⟨h1, h2⟩ := zHH n
  refine ⟨?_, ?_⟩
  ·intro d m a h hd hm hd2 hs
   cases d with
   | zero => exact h.elim
   | succ d =>
    cases m with
    | zero => omega
    | succ m =>
     rw [zGX]
     exact zLE _ _ a h (by omega) hs (fun hw t ht f hf => h2 d m f.Atom ((h.2 t ht).2 f hf) (by omega) (by omega) (by omega) (by
      have := zIz ht hf; rw [ziQ]; omega) (zLI hw ht hf).1) fun x hx => zvH hx
  ·intro d m x h hd hm hd2 hs h10
   rw [zDQ]
   rw [ziQ] at hs
   exact zH9 _ _ x h hd2 h10 (fun a ha => zKN ha) (fun a ha => h1 d m a (h.2.1 a ha) (by omega) hm (by omega) (by have := zGm ha; omega))
    fun a ha => h1 d m a.Ann (h.2.2 a ha).2 (by omega) hm (by omega) (by have := zE5 ha; omega)
def zbH (a : List Term) : Bool := zbP 100 a
theorem zN4 {d : Nat} {a : List Term} (h : zA d a) (hd : d ≤ 100) (hs : zK a ≤ 4611686018427387904) : zbE a = (true, zbH a) := (zBx 1000).1 d 100 a h (by omega) hd hd hs
theorem zNa {d : Nat} {a : List Term} (h : zA d a) (hd : d ≤ 100) (hs : zK a ≤ 4611686018427387904) : zpV a = (true, zbH a) := (zHH 1000).1 d 100 a h (by omega) hd hd hs
def zGO (a : List Term) : Wy0 (List Term × Int) := .bn (zzo a) fun r0 => .i (!r0) (.k ([], 6)) (.k (a, 0))
def zBw (a : List Term) : Bool × (List Term × Int) := (zGO a).fin default
theorem zGC {τ : Type} [Inhabited τ] {l : List τ} {x : τ} (h : x ∈ l) : ∃ i, i < l.length ∧ l.getD i default = x := by
 obtain ⟨i, hi, e⟩ := List.mem_iff_getElem.1 h
 exact ⟨i, hi, by rw [List.getD_eq_getElem?_getD, List.getElem?_eq_getElem hi]; exact e⟩
theorem zB1 {vat : Atom → Bool} {a : List Term} (h : vAnn vat a = true) : zhG a = true := by
 simp only [vAnn, Bool.and_eq_true] at h; exact h.1
theorem zqH {vat : Atom → Bool} {a : List Term} (h : vAnn vat a = true) {t : Term} (ht : t ∈ a) : (1 ≤ t.Coeff ∧ t.Coeff ≤ 1152921504606846976) ∧ okF vat t.Factors = true := by
 simp only [vAnn, Bool.and_eq_true] at h
 obtain ⟨i, hi, rfl⟩ := zGC ht
 have := zea.1 h.2 i (by omega) (by omega)
 simp only [chkT, Bool.and_eq_true, decide_eq_true_eq] at this
 exact ⟨this.1.1, this.2⟩
theorem zni {vat : Atom → Bool} {fs : List Factor} (h : okF vat fs = true) {f : Factor} (hf : f ∈ fs) : (1 ≤ f.Exp ∧ (f.Atom.Kind = 3 ∨ f.Atom.Kind = 4 → f.Exp = 1)) ∧ vat f.Atom = true := by
 obtain ⟨i, hi, rfl⟩ := zGC hf
 have := zea.1 h i (by omega) (by omega)
 simp only [chkF, Bool.and_eq_true, decide_eq_true_eq] at this
 refine ⟨⟨this.1.1.1, fun hk => ?_⟩, this.2⟩
 have h2 := this.1.1.2
 rcases hk with hk | hk
 ·rw [hk] at h2; simpa using h2
 ·rw [hk] at h2; simpa using h2
theorem zQh {b : Value} (h : bz b = true) : b = ⟨0, 0, ByteArray.mk #[]⟩ := by
 unfold bz at h
 rw [zES] at h
 simp only [Bool.and_eq_true, beq_iff_eq, decide_eq_true_eq, and_true] at h
 obtain ⟨k, i, t⟩ := b
 simp only at h
 obtain ⟨rfl, rfl, rfl⟩ := h
 rfl
theorem zuh {v : Value} (h : valV v = true) : v.Text.size ≤ 255 := by
 simp only [valV, Bool.or_eq_true, Bool.and_eq_true, beq_iff_eq, decide_eq_true_eq] at h
 omega
theorem zDo {x : Atom} (h : plA x = true) : x.Func = 0 ∧ x.Items = [] ∧ x.Op = 0 ∧ x.Bound = ⟨0, 0, ByteArray.mk #[]⟩ := by
 simp only [plA, Bool.and_eq_true, beq_iff_eq] at h
 exact ⟨h.1.1.1, List.length_eq_zero_iff.1 h.1.1.2, h.1.2, zQh h.2⟩
theorem zQk {r : RowID} (h : rz r = true) : r = ⟨0, 0⟩ := by
 simp only [rz, Bool.and_eq_true, beq_iff_eq, and_true] at h
 obtain ⟨t, s⟩ := r
 simp only at h
 obtain ⟨rfl, rfl⟩ := h; rfl
inductive VA (V : List Term → Bool) : Atom → Prop
 | var (r : RowID) (h : zzB r = true) : VA V ⟨0, r, [], 0, [], 0, ⟨0, 0, ByteArray.mk #[]⟩⟩
 | mon (a b : List Term) (ha : V a = true) (hb : V b = true) (ha0 : a ≠ []) (hb0 : b ≠ []) (h : a ≠ b) : VA V ⟨1, ⟨0, 0⟩, [a, b], 0, [], 0, ⟨0, 0, ByteArray.mk #[]⟩⟩
 | del (a : List Term) (ha : V a = true) (ha0 : a ≠ []) (h : isC a = false) (h' : isU a = false) : VA V ⟨2, ⟨0, 0⟩, [a], 0, [], 0, ⟨0, 0, ByteArray.mk #[]⟩⟩
 | abs (a : List Term) (ha : V a = true) (ha0 : a ≠ []) (h : hasC a = false) : VA V ⟨3, ⟨0, 0⟩, [a], 0, [], 0, ⟨0, 0, ByteArray.mk #[]⟩⟩
 | tst (f : Int) (l : List Weighted) (o : Int) (b : Value) (hl : l ≠ []) (hi : ∀ w ∈ l, V w.Ann = true ∧ w.Ann ≠ []) (hs : srtW l = true) (hf : fitK f l o b = true) : VA V ⟨4, ⟨0, 0⟩, [], f, l, o, b⟩
theorem zfv {V : List Term → Bool} {x : Atom} : zeF V x = true ↔ VA V x := by
 constructor
 ·intro h
  have hk := zvH h
  obtain ⟨k, r, l, f, its, o, b⟩ := x
  simp only at hk
  unfold zeF at h
  simp only [Bool.and_eq_true] at h
  obtain ⟨h1, h2⟩ := h
  have ha : ∀ a ∈ l, V a = true ∧ a ≠ [] := fun a ha => by
   have := List.all_eq_true.1 h1 a ha
   simp only [Bool.and_eq_true, Bool.not_eq_true', beq_eq_false_iff_ne] at this
   exact ⟨this.1, fun e => this.2 (by rw [e]; rfl)⟩
  by_cases h0 : k = 0
  ·subst h0
   simp only [if_true, Bool.and_eq_true, beq_iff_eq] at h2
   obtain ⟨e1, e2, e3, e4⟩ := zDo h2.1.1
   simp only at e1 e2 e3 e4
   subst e1 e2 e3 e4
   obtain rfl : l = [] := List.length_eq_zero_iff.1 h2.2
   exact .var r h2.1.2
  simp only [h0, if_false, Bool.and_eq_true] at h2
  obtain ⟨hr, h2⟩ := h2
  have hr' := zQk hr
  subst hr'
  by_cases h0' : k = 1
  ·subst h0'
   simp only [if_true, Bool.and_eq_true] at h2
   obtain ⟨e1, e2, e3, e4⟩ := zDo h2.1
   simp only at e1 e2 e3 e4
   subst e1 e2 e3 e4
   match l, h2.2, ha with
   | [a, b], h3, ha => exact .mon a b (ha a (by simp)).1 (ha b (by simp)).1 (ha a (by simp)).2 (ha b (by simp)).2 (by simpa [zHC] using h3)
  simp only [h0', if_false] at h2
  by_cases h2' : k = 2
  ·subst h2'
   simp only [if_true, Bool.and_eq_true] at h2
   obtain ⟨e1, e2, e3, e4⟩ := zDo h2.1
   simp only at e1 e2 e3 e4
   subst e1 e2 e3 e4
   match l, h2.2, ha with
   | [a], h3, ha =>
    simp only [zw8, Bool.and_eq_true, Bool.not_eq_true'] at h3
    exact .del a (ha a (by simp)).1 (ha a (by simp)).2 h3.1 h3.2
  simp only [h2', if_false] at h2
  by_cases h3' : k = 3
  ·subst h3'
   simp only [if_true, Bool.and_eq_true] at h2
   obtain ⟨e1, e2, e3, e4⟩ := zDo h2.1
   simp only at e1 e2 e3 e4
   subst e1 e2 e3 e4
   match l, h2.2, ha with
   | [a], h3, ha =>
    simp only [zw8, Bool.not_eq_true'] at h3
    exact .abs a (ha a (by simp)).1 (ha a (by simp)).2 h3
  simp only [h3', if_false] at h2
  have h4' : k = 4 := by omega
  subst h4'
  simp only [if_true, Bool.and_eq_true, beq_iff_eq, decide_eq_true_eq] at h2
  obtain ⟨⟨⟨⟨h3, h4⟩, h5⟩, h6⟩, h7⟩ := h2
  obtain rfl : l = [] := List.length_eq_zero_iff.1 h3
  exact .tst f its o b (fun e => by rw [e] at h4; simp at h4) (fun w hw => by
   have := List.all_eq_true.1 h5 w hw
   simp only [Bool.and_eq_true, Bool.not_eq_true', beq_eq_false_iff_ne] at this
   exact ⟨this.1, fun e => this.2 (by rw [e]; rfl)⟩) h6 h7
 ·intro h
  have ne : ∀ a : List Term, a ≠ [] → (a.length == 0) = false := fun a ha => by
   rw [beq_eq_false_iff_ne]; exact fun e => ha (List.length_eq_zero_iff.1 e)
  cases h with
  | var r h => simp [zeF, zmg, plA, bz, h]
  | mon a b ha hb ha0 hb0 h => simp [zeF, zmg, plA, bz, rz, zHC, ha, hb, ha0, hb0, h]
  | del a ha ha0 h h' => simp [zeF, zmg, plA, bz, rz, zw8, ha, ha0, h, h']
  | abs a ha ha0 h => simp [zeF, zmg, plA, bz, rz, zw8, ha, ha0, h]
  | tst f l o b hl hi hs hf =>
   have h1 : ztX V l = true := List.all_eq_true.2 fun w hw => by rw [(hi w hw).1, ne _ (hi w hw).2]; rfl
   have h2 : 0 < l.length := by
    cases l with
    | nil => exact absurd rfl hl
    | cons x r => simp
   simp [zeF, zmg, rz, h1, hs, hf, h2]
theorem zzz {a : List Term} (h : zhG a = true) : a.length ≤ 512 ∧ zbg a ≤ 8 ∧ zK a ≤ 4096 ∧ ∀ t ∈ a, t.Factors.length ≤ 64 ∧ ∀ f ∈ t.Factors, f.Exp ≤ 64 ∧ f.Atom.Items.length ≤ 1024 := by
 simp only [zhG, Bool.and_eq_true, List.all_eq_true, decide_eq_true_eq] at h
 refine ⟨h.1.1.1, h.1.1.2, h.1.2, fun t ht => ?_⟩
 have := h.2 t ht
 simp only [withF, Bool.not_eq_true', Bool.or_eq_false_iff, decide_eq_false_iff_not, List.any_eq_false] at this
 refine ⟨by omega, fun f hf => ?_⟩
 have h2 := this.2 f hf
 simp at h2
 omega
theorem zNs {a : List Term} {t : Term} (h : t ∈ a) : zdO t.Factors ≤ zbg a := by
 induction a with
 | nil => cases h
 | cons b r ih =>
  rw [zxa]
  rcases List.mem_cons.1 h with rfl | h
  ·omega
  ·have := ih h; omega
theorem zIS {l : List Factor} {f : Factor} (h : f ∈ l) : zl7 f.Atom ≤ zdO l := by
 induction l with
 | nil => cases h
 | cons b r ih =>
  rw [zuN]
  rcases List.mem_cons.1 h with rfl | h
  ·omega
  ·have := ih h; omega
theorem zCn {l : List (List Term)} {a : List Term} (h : a ∈ l) : zbg a ≤ zj6 l := by
 induction l with
 | nil => cases h
 | cons b r ih =>
  rw [zvw]
  rcases List.mem_cons.1 h with rfl | h
  ·omega
  ·have := ih h; omega
theorem zKQ {l : List Weighted} {w : Weighted} (h : w ∈ l) : zbg w.Ann ≤ ziP l := by
 induction l with
 | nil => cases h
 | cons b r ih =>
  rw [ztv]
  rcases List.mem_cons.1 h with rfl | h
  ·omega
  ·have := ih h; omega
theorem zrL {f : Int} {l : List Weighted} {o : Int} {b : Value} (h : fitK f l o b = true) : (0 ≤ f ∧ f ≤ 3 ∧ 5 ≤ o ∧ o ≤ 10) ∧ valV b = true ∧ ∀ w ∈ l, valV w.Value = true ∧ w.Value.Kind = b.Kind := by
 simp only [fitK, Bool.and_eq_true, List.all_eq_true, decide_eq_true_eq] at h
 obtain ⟨⟨⟨⟨⟨⟨h1, h2⟩, h3⟩, h4⟩, h5⟩, h6⟩, h7⟩ := h
 refine ⟨⟨h1, h2, h3, h4⟩, h5, fun w hw => ?_⟩
 have := h7 w hw
 simp only [fitI, Bool.and_eq_true, beq_iff_eq] at this
 exact this.1
theorem zHG : ∀ (m : Nat) (a : List Term), zbP m a = true → zA (zbg a + 1) a
 | 0, a, h => by cases h
 | m + 1, a, h => by
  have hw := zzz (zB1 h)
  refine ⟨by omega, fun t ht => ?_⟩
  obtain ⟨_, hok⟩ := zqH h ht
  obtain ⟨h1, h2⟩ := hw.2.2.2 t ht
  refine ⟨by omega, fun f hf => ?_⟩
  have hv := zfv.1 (zni hok hf).2
  have hn : zl7 f.Atom ≤ zbg a := Nat.le_trans (zIS hf) (zNs ht)
  have h3 := (h2 f hf).2
  generalize f.Atom = x at hv hn h3
  rw [zvs] at hn
  have ih : ∀ b, zbP m b = true → zbg b + 1 ≤ zbg a → zA (zbg a) b := fun b hb hl => (zHG m b hb).mono hl
  cases hv with
  | var r h => exact ⟨⟨by simp, by simp, by show (ByteArray.mk #[]).size ≤ _; decide⟩, fun a ha => (by cases ha), fun w hw => (by cases hw)⟩
  | mon b c hb hc _ _ _ =>
   simp only at hn
   refine ⟨⟨by simp, by simp, by show (ByteArray.mk #[]).size ≤ _; decide⟩, fun y hy => ?_, fun w hw => (by cases hw)⟩
   have := zCn hy
   simp only at this
   simp only [List.mem_cons, List.not_mem_nil, or_false] at hy
   rcases hy with rfl | rfl
   ·exact ih _ hb (by simp at hn; omega)
   ·exact ih _ hc (by simp at hn; omega)
  | del b hb _ _ _ =>
   refine ⟨⟨by simp, by simp, by show (ByteArray.mk #[]).size ≤ _; decide⟩, fun y hy => ?_, fun w hw => (by cases hw)⟩
   have := zCn hy
   simp only at this
   simp only [List.mem_cons, List.not_mem_nil, or_false] at hy
   subst hy
   exact ih _ hb (by simp at hn; omega)
  | abs b hb _ _ =>
   refine ⟨⟨by simp, by simp, by show (ByteArray.mk #[]).size ≤ _; decide⟩, fun y hy => ?_, fun w hw => (by cases hw)⟩
   have := zCn hy
   simp only at this
   simp only [List.mem_cons, List.not_mem_nil, or_false] at hy
   subst hy
   exact ih _ hb (by simp at hn; omega)
  | tst fn l o b hl hi hs hf =>
   obtain ⟨_, hb, hit⟩ := zrL hf
   refine ⟨⟨by simp, by simp only at h3 ⊢; omega, by have := zuh hb; simp only; omega⟩, fun y hy => (by cases hy), fun w hw => ⟨by have := zuh (hit w hw).1; omega, ?_⟩⟩
   have := zKQ hw
   simp only at this
   exact ih _ (hi w hw).1 (by simp at hn; omega)
theorem zjW {m : Nat} {a : List Term} (h : zbP m a = true) : zA 9 a ∧ zK a ≤ 4096 ∧ a.length ≤ 512 := by
 cases m with
 | zero => cases h
 | succ m =>
 have hw := zzz (zB1 h)
 exact ⟨(zHG _ a h).mono (by omega), hw.2.2.1, hw.1⟩
theorem zJl {d m m' : Nat} {a : List Term} (h : zA d a) (hd : d ≤ 100) (h1 : d ≤ m) (h2 : d ≤ m') (hs : zK a ≤ 4611686018427387904) : zbP m a = zbP m' a := by
 have e1 := (zBx 1000).1 d m a h (by omega) h1 hd hs
 have e2 := (zBx 1000).1 d m' a h (by omega) h2 hd hs
 rw [e1] at e2
 exact (Prod.mk.injEq _ _ _ _ ▸ e2).2
theorem zPf {m : Nat} {a : List Term} (h : zbP m a = true) (hm : 9 ≤ m) : zbH a = true := by
 obtain ⟨h1, h2, h3⟩ := zjW h
 rw [← h]; exact zJl h1 (by omega) (by omega) hm (by omega)
theorem zK9 {m : Nat} {a : List Term} (h : zbH a = true) (hm : 9 ≤ m) : zbP m a = true := by
 obtain ⟨h1, h2, h3⟩ := zjW h
 rw [← h]; exact zJl h1 (by omega) hm (by omega) (by omega)
theorem VA.imp {V V' : List Term → Bool} (hV : ∀ a, V a = true → V' a = true) {x : Atom} (h : VA V x) : VA V' x := by
 cases h with
 | var r h => exact .var r h
 | mon a b ha hb ha0 hb0 h => exact .mon a b (hV a ha) (hV b hb) ha0 hb0 h
 | del a ha ha0 h h' => exact .del a (hV a ha) ha0 h h'
 | abs a ha ha0 h => exact .abs a (hV a ha) ha0 h
 | tst f l o b hl hi hs hf => exact .tst f l o b hl (fun w hw => ⟨hV _ (hi w hw).1, (hi w hw).2⟩) hs hf
def vatA (x : Atom) : Bool := zeF zbH x
theorem zN6 {m : Nat} (hm : 9 ≤ m) : zeF (zbP m) = vatA := by
 funext x
 rw [Bool.eq_iff_iff]
 unfold vatA
 rw [zfv, zfv]
 exact ⟨VA.imp fun a h => zPf h hm, VA.imp fun a h => zK9 h hm⟩
theorem zHy (a : List Term) : zbH a = vAnn vatA a := by
 show vAnn (zeF (zbP 99)) a = _
 rw [zN6 (by omega)]
theorem zG0 {τ : Type} [Inhabited τ] {l : List τ} {i : Nat} (h : i < l.length) : l.set i (l.getD i default) = l := by
 rw [List.getD_eq_getElem?_getD, List.getElem?_eq_getElem h]; simp
section
variable (g : List Term → Bool × List Term) (gx : Atom → Bool × Atom)
theorem cp_7 (t8 : List Term) (t9 t10 : Int) (out : List Term) (t : Term) (l : List Factor) (hl : l.length ≤ 1000000) (hg : ∀ f ∈ l, gx f.Atom = (true, f.Atom)) (n : Nat) (hn : l.length < n) :
  zsY gx n t8 t9 t10 l.length 0 out t l = (true, (t8, t9, t10, out, t, l)) := by
 have := zdR (W := zkj gx) (z := default) l.length (fun i => ((), (), (), t8, t9, t10, (l.length : Int), (i : Int), ())) (fun _ => (out, t, l, ())) (fun _ => true) default (t8, t9, t10, out, t, l)
  (fun i hi H K D => by
   show (zhS gx t8 t9 t10 l.length i out t l).ev H K D = _
   unfold zhS
   simp only [Atom.eta, Wy.ev_i, Wy.ev_k, Wy.ev_h, Wy.ev_bn, Wy.ev_d, tT, hi, hg _ (zC hi)]
   rw [zY (by omega)]
   have : (l.set i (⟨(l.getD i default).Atom, (l.getD i default).Exp⟩ : Factor)) = l := zG0 hi
   rw [this])
  (fun H K D => by
   show (zhS gx t8 t9 t10 l.length l.length out t l).ev H K D = _
   unfold zhS
   simp only [Wy.ev_i, Wy.ev_k, tT, Nat.lt_irrefl]) n hn
 rw [show allN (fun _ => true) l.length 0 = true from zea.2 fun _ _ _ => rfl] at this
 exact this
theorem cp_3 (a : List Term) (hl : a.length ≤ 1000000) (hg : ∀ t ∈ a, t.Factors.length ≤ 1000000 ∧ ∀ f ∈ t.Factors, gx f.Atom = (true, f.Atom)) (n : Nat) (hn : a.length < n) :
  zsW gx n a a.length 0 [] = (true, a) := by
 have hreach : zP = 70368744177664 := rfl
 have := zdR (W := zkk gx) (z := default) a.length (fun i => ((), a, (a.length : Int), (i : Int), ())) (fun i => (a.take i, ())) (fun _ => true) default a
  (fun i hi H K D => by
   show (zhT gx a a.length i (a.take i)).ev H K D = _
   unfold zhT zef
   obtain ⟨h1, h2⟩ := hg _ (zC hi)
   have hb : decide ((a.getD i default).Factors.length * 128 ≤ zP) = true := by simp only [decide_eq_true_eq]; omega
   simp only [Wy.ev_i, Wy.ev_k, Wy.ev_h, Wy.ev_bn, Wy.ev_d, tT, hi, hb]
   rw [cp_7 gx a a.length i (a.take i) _ _ h1 h2 _ (by omega)]
   have hb2 : decide (((a.take i).length + 1) * 32 ≤ zP) = true := by simp only [decide_eq_true_eq, List.length_take]; omega
   simp only [cond_true, List.length_singleton, hb2]
   rw [zY (by omega), zj7 hi])
  (fun H K D => by
   show (zhT gx a a.length a.length (a.take a.length)).ev H K D = _
   unfold zhT
   simp only [Wy.ev_i, Wy.ev_k, tT, Nat.lt_irrefl, List.take_length]) n hn
 rw [show allN (fun _ => true) a.length 0 = true from zea.2 fun _ _ _ => rfl] at this
 exact this
end
def txV (v : Value) : List UInt8 := if v.Kind = 0 then zg9 v.Int else if v.Kind = 1 then 39 :: (v.Text.data.toList.flatMap esc ++ [39]) else if v.Int = 1 then [84, 82, 85, 69] else [70, 65, 76, 83, 69]
def txR (r : RowID) : List UInt8 := 116 :: (zg9 r.Table ++ 46 :: zg9 r.Seq)
def fnT (f : Int) : List UInt8 := if f = 0 then [67, 79, 85, 78, 84] else if f = 1 then [83, 85, 77] else if f = 2 then [77, 73, 78] else [77, 65, 88]
def opT (o : Int) : List UInt8 := if o = 5 then [61] else if o = 6 then [60, 62] else if o = 7 then [60] else if o = 8 then [60, 61] else if o = 9 then [62] else [62, 61]
def zDt (ts : List (List UInt8)) : List UInt8 := if ts = [] then [48] else zdY ts [32, 43, 32]
def zFc (c : Int) (fs : List (List UInt8)) : List UInt8 := if fs = [] then zg9 c else if c = 1 then zdY fs [42] else zg9 c ++ 42 :: zdY fs [42]
def zBI (x : List UInt8) (e : Int) : List UInt8 := if e = 1 then x else x ++ 94 :: zg9 e
def zcG (k : Int) (r : RowID) (xs : List (List UInt8)) (f : Int) (is : List (List UInt8)) (o : Int) (b : Value) : List UInt8 :=
 if k = 0 then txR r
 else if k = 1 then [109, 111, 110, 117, 115, 91] ++ (xs.getD 0 [] ++ ([44, 32] ++ (xs.getD 1 [] ++ [93])))
 else if k = 2 then [100, 101, 108, 116, 97, 91] ++ (xs.getD 0 [] ++ [93])
 else if k = 3 then [97, 98, 115, 101, 110, 116, 91] ++ (xs.getD 0 [] ++ [93])
 else [116, 101, 115, 116, 91] ++ (fnT f ++ ([123] ++ (zdY is [59, 32] ++ ([125, 32] ++ (opT o ++ ([32] ++ (txV b ++ [93])))))))
mutual
def txA : Atom → List UInt8
 | ⟨k, r, a, f, i, o, b⟩ => zcG k r (txAs a) f (txIs i) o b
def txFs : List Factor → List (List UInt8)
 | [] => []
 | ⟨x, e⟩ :: l => zBI (txA x) e :: txFs l
def txTs : List Term → List (List UInt8)
 | [] => []
 | ⟨c, fs⟩ :: l => zFc c (txFs fs) :: txTs l
def txAs : List (List Term) → List (List UInt8)
 | [] => []
 | a :: l => zDt (txTs a) :: txAs l
def txIs : List Weighted → List (List UInt8)
 | [] => []
 | ⟨v, a⟩ :: l => (txV v ++ ([58, 32] ++ zDt (txTs a))) :: txIs l
end
def txF (f : Factor) : List UInt8 := zBI (txA f.Atom) f.Exp
def txT (t : Term) : List UInt8 := zFc t.Coeff (txFs t.Factors)
def txN (a : List Term) : List UInt8 := zDt (txTs a)
def txI (w : Weighted) : List UInt8 := txV w.Value ++ ([58, 32] ++ txN w.Ann)
theorem zrc : ∀ l, txFs l = l.map txF
 | [] => by rw [txFs]; rfl
 | x :: r => by rw [txFs, zrc r]; rfl
theorem zDD : ∀ l, txTs l = l.map txT
 | [] => by rw [txTs]; rfl
 | x :: r => by rw [txTs, zDD r]; rfl
theorem zj2 : ∀ l, txAs l = l.map txN
 | [] => by rw [txAs]; rfl
 | x :: r => by rw [txAs, zj2 r]; rfl
theorem zAe : ∀ l, txIs l = l.map txI
 | [] => by rw [txIs]; rfl
 | x :: r => by rw [txIs, zAe r]; rfl
theorem zRb (x : Atom) : txA x = zcG x.Kind x.Row (txAs x.Args) x.Func (txIs x.Items) x.Op x.Bound := by cases x; rw [txA]
def txL (l : List Factor) : List UInt8 := zdY (txFs l) [42]
theorem zC2 {v : Value} (h : valV v = true) : (txV v).length ≤ 512 := by
 have ht := zuh h
 unfold txV
 have h1 := zlS v.Int
 have h2 := zIr v.Text.data.toList
 have h3 : v.Text.data.toList.length = v.Text.size := by rw [Array.length_toList]; rfl
 split
 ·omega
 ·split
  ·simp only [List.length_cons, List.length_append, List.length_nil]; omega
  ·split <;> simp
theorem zQv (r : RowID) : (txR r).length ≤ 44 := by
 have h1 := zlS r.Table
 have h2 := zlS r.Seq
 simp only [txR, List.length_cons, List.length_append]; omega
theorem zMn (f : Int) : (fnT f).length ≤ 5 := by unfold fnT; (repeat' split) <;> simp
theorem zMe (f : Int) : (opT f).length ≤ 2 := by unfold opT; (repeat' split) <;> simp
theorem zDz {α : Type} (t : α → List UInt8) (m : α → Nat) (s : List UInt8) : ∀ l : List α, (∀ x ∈ l, (t x).length + s.length ≤ m x) → (zdY (l.map t) s).length ≤ (l.map m).sum
 | [], _ => by simp [zdY]
 | [x], h => by
  have := h x (by simp)
  simp only [List.map, zdY, List.sum_cons, List.sum_nil]; omega
 | x :: y :: r, h => by
  have h1 := h x (by simp)
  have h2 := zDz t m s (y :: r) fun z hz => h z (List.mem_cons_of_mem _ hz)
  simp only [List.map, zdY, List.length_append, List.sum_cons] at h2 ⊢
  omega
theorem zGB : ∀ l : List Factor, (l.map fun f => 1000 + 1000 * zeS f.Atom).sum = 1000 * (l.length + zbA l)
 | [] => by rw [zol]; rfl
 | f :: r => by rw [List.map_cons, List.sum_cons, zGB r, zfQ, List.length_cons]; omega
theorem zJq : ∀ l : List Term, (l.map fun t => 1000 + 1000 * (t.Factors.length + zbA t.Factors)).sum = 1000 * zK l
 | [] => by rw [zuW]; rfl
 | f :: r => by rw [List.map_cons, List.sum_cons, zJq r, ziJ]; omega
theorem zJh : ∀ l : List Weighted, (l.map fun t => 1000 + 1000 * zK t.Ann).sum = 1000 * zdt l
 | [] => by rw [zhU]; rfl
 | f :: r => by rw [List.map_cons, List.sum_cons, zJh r, zh0]; omega
theorem zQo {x : Atom} {e : Int} (h : (txA x).length ≤ 700 + 1000 * zeS x) : (zBI (txA x) e).length + 1 ≤ 1000 + 1000 * zeS x := by
 have := zlS e
 unfold zBI
 split
 ·omega
 ·simp only [List.length_append, List.length_cons]; omega
theorem zLd {l : List Factor} (h : ∀ f ∈ l, (txA f.Atom).length ≤ 700 + 1000 * zeS f.Atom) : (txL l).length ≤ 1000 * (l.length + zbA l) := by
 unfold txL
 rw [zrc, ← zGB]
 exact zDz txF (fun f => 1000 + 1000 * zeS f.Atom) [42] l fun f hf => zQo (h f hf)
theorem zF1 : ∀ (m : Nat), (∀ a, zbP m a = true → (txN a).length ≤ 1 + 1000 * zK a) ∧ (∀ x, zeF (zbP m) x = true → (txA x).length ≤ 700 + 1000 * zeS x)
 | m => by
  have hA : ∀ (V : List Term → Bool), (∀ a, V a = true → (txN a).length ≤ 1 + 1000 * zK a) → ∀ x, zeF V x = true → (txA x).length ≤ 700 + 1000 * zeS x := by
   intro V hV x hx
   rw [ziQ]
   cases zfv.1 hx with
   | var r h =>
    rw [txA]; have := zQv r
    simp only [zcG, if_true]; omega
   | mon a b ha hb _ _ _ =>
    have h1 := hV a ha; have h2 := hV b hb
    rw [txA, zj2]
    simp only [zcG, zex, ziI, zhU, List.map, List.getD_cons_zero, List.getD_cons_succ, List.length_append, List.length_cons, List.length_nil]
    simp only [show ¬ (1 : Int) = 0 by decide, if_false, if_true, List.length_append, List.length_cons, List.length_nil]
    omega
   | del a ha _ _ _ =>
    have h1 := hV a ha
    rw [txA, zj2]
    simp only [zcG, zex, ziI, zhU, List.map, List.getD_cons_zero]
    simp only [show ¬ (2 : Int) = 0 by decide, show ¬ (2 : Int) = 1 by decide, if_false, if_true, List.length_append, List.length_cons, List.length_nil]
    omega
   | abs a ha _ _ =>
    have h1 := hV a ha
    rw [txA, zj2]
    simp only [zcG, zex, ziI, zhU, List.map, List.getD_cons_zero]
    simp only [show ¬ (3 : Int) = 0 by decide, show ¬ (3 : Int) = 1 by decide, show ¬ (3 : Int) = 2 by decide, if_false, if_true, List.length_append, List.length_cons, List.length_nil]
    omega
   | tst f l o b hl hi hs hf =>
    obtain ⟨_, hb, hit⟩ := zrL hf
    have h1 := zMn f; have h2 := zMe o; have h3 := zC2 hb
    have h4 : (zdY (l.map txI) [59, 32]).length ≤ 1000 * zdt l := by
     rw [← zJh]
     refine zDz txI (fun w => 1000 + 1000 * zK w.Ann) [59, 32] l fun w hw => ?_
     have h5 := hV _ (hi w hw).1; have h6 := zC2 (hit w hw).1
     simp only [txI, List.length_append, List.length_cons, List.length_nil]; omega
    rw [txA, zAe]
    simp only [zcG, ziI]
    simp only [show ¬ (4 : Int) = 0 by decide, show ¬ (4 : Int) = 1 by decide, show ¬ (4 : Int) = 2 by decide, show ¬ (4 : Int) = 3 by decide, if_false, List.length_append, List.length_cons, List.length_nil]
    omega
  have hN : ∀ a, zbP m a = true → (txN a).length ≤ 1 + 1000 * zK a := by
   induction m with
   | zero => intro a h; cases h
   | succ m ih =>
    intro a h
    unfold txN zDt
    split
    ·simp
    ·rw [zDD, ← zJq]
     refine Nat.le_trans (zDz txT (fun t => 1000 + 1000 * (t.Factors.length + zbA t.Factors)) [32, 43, 32] a fun t ht => ?_) (Nat.le_add_left _ _)
     have hok := (zqH h ht).2
     have h5 := zLd (l := t.Factors) fun f hf => hA _ ih _ (zni hok hf).2
     have h6 := zlS t.Coeff
     have e : (zdY (txFs t.Factors) [42]).length = (txL t.Factors).length := rfl
     unfold txT zFc
     simp only [List.length_cons, List.length_nil]
     split
     ·omega
     ·split
      ·omega
      ·simp only [List.length_append, List.length_cons]; omega
  exact ⟨hN, hA _ hN⟩
theorem zj5 {n : Int} (h : wf3 n) : -9223372036854775808 ≤ n ∧ n ≤ 9223372036854775807 := by
 have h : (Lit.int .i64 n).wf = true := h
 have : IntKind.i64.min ≤ n ∧ n ≤ IntKind.i64.max := by simpa [Lit.wf] using h
 exact ⟨this.1, this.2⟩
def rng (n : Int) : Prop := -9223372036854775808 ≤ n ∧ n ≤ 9223372036854775807
instance (n : Int) : Decidable (rng n) := by unfold rng; infer_instance
theorem zGR {n : Int} (h : rng n) : strconv_Itoa n = (true, bs (zg9 n)) := by
 unfold strconv_Itoa zDO zBu
 rw [decide_eq_true h.1, decide_eq_true h.2]; rfl
theorem zMp {n : Int} (h : rng n) : zhz n 10 = (true, bs (zg9 n)) := by
 unfold zhz zo9 zBu
 rw [decide_eq_true h.1, decide_eq_true h.2]; rfl
theorem okS (n m : Nat) (h : n + m ≤ 9223372036854775807) : decide (n + m ≤ 9223372036854775807) = true := decide_eq_true h
theorem zPk {r : RowID} (h : zzB r = true) (h1 : rng r.Table) (h2 : rng r.Seq) : zpM r = (true, bs (txR r)) := by
 unfold zpM zu0 txR
 have l1 := zlS r.Table
 have l2 := zlS r.Seq
 rw [show ByteArray.mk #[(116 : UInt8)] = bs [116] from rfl, show ByteArray.mk #[(46 : UInt8)] = bs [46] from rfl]
 simp only [Wy.fin_bn, Wy.fin_i, Wy.fin_k, zBT, h, zGR h1, zGR h2, cond_true, cond_false, Bool.not_true, zuY, zn8, List.length_append, List.length_cons, List.length_nil]
 rw [okS _ _ (by omega), okS _ _ (by omega), okS _ _ (by omega)]
 simp
theorem zLf {v : Value} (h : valV v = true) (hr : rng v.Int) : zn3 v = (true, bs (txV v)) := by
 unfold zn3 zwD txV strings_ReplaceAll
 have ht := zuh h
 rw [show ByteArray.mk #[(39 : UInt8)] = bs [39] from rfl, show ByteArray.mk #[(39 : UInt8), (39 : UInt8)] = bs [39, 39] from rfl]
 simp only [Wy.fin_bn, Wy.fin_i, Wy.fin_k, zwY, h, zMp hr, zIl _ ht, cond_true, cond_false, Bool.not_true, zuY, zn8, List.length_append, List.length_cons, List.length_nil]
 have h2 := zIr v.Text.data.toList
 have h3 : v.Text.data.toList.length = v.Text.size := by rw [Array.length_toList]; rfl
 rw [okS _ _ (by omega), okS _ _ (by omega)]
 by_cases k0 : v.Kind = 0
 ·simp [k0]
 by_cases k1 : v.Kind = 1
 ·simp [k1]
 simp only [beqd, k0, k1, decide_false, cond_false, if_false]
 by_cases i1 : v.Int = 1
 ·simp only [i1, decide_true, cond_true, if_true]; rfl
 ·simp only [i1, decide_false, cond_false, if_false]; rfl
theorem zPV {f : Int} (h0 : 0 ≤ f) (h3 : f ≤ 3) : (decide ((0 : Int) ≤ f) && decide (f < Int.ofNat zbI.snd.length)) = true ∧ zbI.snd.getD f.toNat default = bs (fnT f) := by
 have hc : f = 0 ∨ f = 1 ∨ f = 2 ∨ f = 3 := by omega
 rcases hc with rfl | rfl | rfl | rfl <;> exact ⟨rfl, rfl⟩
theorem zQl {o : Int} (h0 : 5 ≤ o) (h3 : o ≤ 10) : (decide ((0 : Int) ≤ IntKind.i64.wrap (o - 5)) && decide (IntKind.i64.wrap (o - 5) < Int.ofNat zcR.snd.length)) = true ∧ zcR.snd.getD (IntKind.i64.wrap (o - 5)).toNat default = bs (opT o) := by
 have hc : o = 5 ∨ o = 6 ∨ o = 7 ∨ o = 8 ∨ o = 9 ∨ o = 10 := by omega
 rcases hc with rfl | rfl | rfl | rfl | rfl | rfl <;> exact ⟨rfl, rfl⟩
theorem zGN {m : Nat} {x : Atom} (h : zeF (zbP m) x = true) (hi : x.Items.length ≤ 1024) : zeS x ≤ 4195328 := by
 rw [ziQ]
 cases zfv.1 h with
 | var r h => rw [ziI, zhU]; omega
 | mon a b ha hb _ _ _ =>
  have h1 := (zjW ha).2.1; have h2 := (zjW hb).2.1
  simp only [zex, ziI, zhU]; omega
 | del a ha _ _ _ =>
  have h1 := (zjW ha).2.1
  simp only [zex, ziI, zhU]; omega
 | abs a ha _ _ =>
  have h1 := (zjW ha).2.1
  simp only [zex, ziI, zhU]; omega
 | tst f l o b hl hv hs hf =>
  have h1 : ∀ l : List Weighted, (∀ w ∈ l, zK w.Ann ≤ 4096) → zdt l ≤ l.length * 4097 := fun l => by
   induction l with
   | nil => intro _; rw [zhU]; omega
   | cons w r ih =>
    intro h
    have := h w (by simp)
    have := ih fun w hw => h w (by simp [hw])
    rw [zh0, List.length_cons, Nat.add_mul]; omega
  have := h1 l fun w hw => (zjW (hv w hw).1).2.1
  have := Nat.mul_le_mul hi (Nat.le_refl 4097)
  simp only [ziI] at this ⊢; omega
section
variable (gA : Atom → Bool × ByteArray) (gF : List Factor → Bool × ByteArray) (gT : List Term → Bool × ByteArray)
theorem zQY (l : List Factor) (hl : l.length ≤ 1000) (hg : ∀ f ∈ l, gA f.Atom = (true, bs (txA f.Atom)) ∧ (txA f.Atom).length ≤ 4200000000 ∧ rng f.Exp) : ze5 gA l = (true, bs (txL l)) := by
 have hreach : zP = 70368744177664 := rfl
 unfold ze5 zjX
 have := zdR (W := zgo gA) (z := default) l.length (fun i => ((), l, (l.length : Int), (i : Int), ())) (fun i => ((l.take i).map fun f => bs (txF f), ())) (fun _ => true) default (l.map fun f => bs (txF f))
  (fun i hi H K D => by
   show (zei gA l l.length i ((l.take i).map fun f => bs (txF f))).ev H K D = _
   unfold zei
   obtain ⟨h1, h2, h3⟩ := hg _ (zC hi)
   have l1 := zlS (l.getD i default).Exp
   rw [show ByteArray.mk #[(94 : UInt8)] = bs [94] from rfl]
   simp only [Atom.eta, Wy.ev_i, Wy.ev_k, Wy.ev_h, Wy.ev_bn, Wy.ev_d, tT, hi, h1, zGR h3, zuY, zn8, List.length_append, List.length_cons, List.length_nil]
   rw [okS _ _ (by omega), okS _ _ (by omega), zY (by omega), zj7 hi, List.map_append]
   have hb : decide ((((l.take i).map fun f => bs (txF f)).length + 1) * 16 ≤ zP) = true := by simp only [decide_eq_true_eq, List.length_map, List.length_take]; omega
   generalize ((l.take i).map fun f => bs (txF f)) = out at hb ⊢
   have hb' : decide ((out.length + (0 + 1)) * 16 ≤ zP) = true := hb
   simp only [hb, hb', cond_true, List.map_cons, List.map_nil, txF, zBI, bne0]
   by_cases he : (l.getD i default).Exp = 1
   ·simp only [he, decide_true, Bool.not_true, cond_false, if_true]
   ·simp only [he, decide_false, Bool.not_false, cond_true, if_false, List.singleton_append])
  (fun H K D => by
   show (zei gA l l.length l.length ((l.take l.length).map fun f => bs (txF f))).ev H K D = _
   unfold zei
   simp only [Wy.ev_i, Wy.ev_k, tT, Nat.lt_irrefl, List.take_length]) (l.length + (Int.ofNat l.length).toNat + Int.toNat (0 : Int) + (0 : Nat) + (1 : Nat)) (by omega)
 rw [show allN (fun _ => true) l.length 0 = true from zea.2 fun _ _ _ => rfl] at this
 have e : znM gA (l.length + (Int.ofNat l.length).toNat + Int.toNat (0 : Int) + (0 : Nat) + (1 : Nat)) l (Int.ofNat l.length) (0 : Int) [] = (true, (l.map txF).map bs) := by rw [List.map_map]; exact this
 have hlen : (zdY (l.map txF) [42]).length ≤ 140737488355328 := by
  refine Nat.le_trans (zE6 (B := 4200001000) (l.map txF) [42] fun x hx => ?_) (by
   rw [List.length_map]; have := Nat.mul_le_mul hl (Nat.le_refl 4200001000); omega)
  obtain ⟨f, hf, rfl⟩ := List.mem_map.1 hx
  have := (hg f hf).2.1
  have := zlS f.Exp
  unfold txF zBI
  split
  ·simp only [List.length_cons, List.length_nil]; omega
  ·simp only [List.length_append, List.length_cons, List.length_nil]; omega
 rw [Wy.fin_bn, e, show ByteArray.mk #[(42 : UInt8)] = bs [42] from rfl]
 unfold strings_Join
 simp only [cond_true, Wy.fin_bn, Wy.fin_k, zG2 _ _ (by rw [List.length_map]; omega) hlen]
 unfold txL
 rw [zrc]
theorem zQQ (a : List Term) (hl : a.length ≤ 1000) (hlen : (txN a).length ≤ 140737488355328) (hg : ∀ t ∈ a, gF t.Factors = (true, bs (txL t.Factors)) ∧ (txL t.Factors).length ≤ 4200000000 ∧ rng t.Coeff) : zlk gF a = (true, bs (txN a)) := by
 have hreach : zP = 70368744177664 := rfl
 unfold zlk zpW
 by_cases h0 : a = []
 ·subst h0
  have e : txN [] = [48] := by unfold txN; rw [txTs]; rfl
  rw [e]; rfl
 have hne : (Int.ofNat a.length == (0 : Int)) = false := by
  rw [beq_eq_false_iff_ne]; intro e
  have : (a.length : Int) = 0 := e
  exact h0 (List.length_eq_zero_iff.1 (by omega))
 have := zdR (W := zlF gF) (z := default) a.length (fun i => ((), a, (a.length : Int), (i : Int), ())) (fun i => ((a.take i).map fun f => bs (txT f), ())) (fun _ => true) default (a.map fun f => bs (txT f))
  (fun i hi H K D => by
   show (ziO gF a a.length i ((a.take i).map fun f => bs (txT f))).ev H K D = _
   unfold ziO
   obtain ⟨h1, h2, h3⟩ := hg _ (zC hi)
   have l1 := zlS (a.getD i default).Coeff
   rw [show ByteArray.mk #[(42 : UInt8)] = bs [42] from rfl]
   have hL : decide ((i : Int) < (a.length : Int)) = true := by simp [hi]
   have hL' : decide ((i : Int) < Int.ofNat a.length) = true := hL
   simp only [Wy.ev_i, Wy.ev_k, Wy.ev_h, Wy.ev_bn, Wy.ev_d, hL, hL', zfe, Bool.and_self, cond_true, Int.toNat_natCast, h1, zMp h3, zuY, zn8, List.length_append, List.length_cons, List.length_nil, show (Int.ofNat (a.getD i default).Factors.length == (0 : Int)) = ((a.getD i default).Factors.length == 0) from ztr _ 0]
   rw [okS _ _ (by omega), okS _ _ (by omega), zY (by omega), zj7 hi, List.map_append]
   have hb : decide ((((a.take i).map fun f => bs (txT f)).length + 1) * 16 ≤ zP) = true := by simp only [decide_eq_true_eq, List.length_map, List.length_take]; omega
   generalize ((a.take i).map fun f => bs (txT f)) = out at hb ⊢
   have hb' : decide ((out.length + (0 + 1)) * 16 ≤ zP) = true := hb
   simp only [hb, hb', cond_true, List.map_cons, List.map_nil, txT, zFc, beqd]
   have e0 : (txFs (a.getD i default).Factors = []) ↔ (a.getD i default).Factors.length = 0 := by
    rw [zrc, List.map_eq_nil_iff, List.length_eq_zero_iff]
   by_cases hf : (a.getD i default).Factors.length = 0
   ·rw [if_pos (e0.2 hf), hf]; rfl
   ·rw [if_neg (fun e => hf (e0.1 e)), beqn, decide_eq_false hf]
    by_cases he : (a.getD i default).Coeff = 1
    ·simp only [he, decide_true, cond_true, cond_false, if_true, txL]
    ·simp only [he, decide_false, cond_false, if_false, txL, List.append_assoc, List.singleton_append])
  (fun H K D => by
   show (ziO gF a a.length a.length ((a.take a.length).map fun f => bs (txT f))).ev H K D = _
   unfold ziO
   simp only [Wy.ev_i, Wy.ev_k, tT, Nat.lt_irrefl, List.take_length]) (a.length + (Int.ofNat a.length).toNat + Int.toNat (0 : Int) + (0 : Nat) + (1 : Nat)) (by omega)
 rw [show allN (fun _ => true) a.length 0 = true from zea.2 fun _ _ _ => rfl] at this
 have e : zuK gF (a.length + (Int.ofNat a.length).toNat + Int.toNat (0 : Int) + (0 : Nat) + (1 : Nat)) a (Int.ofNat a.length) (0 : Int) [] = (true, (a.map txT).map bs) := by rw [List.map_map]; exact this
 have ex : txN a = zdY (a.map txT) [32, 43, 32] := by
  unfold txN zDt
  rw [zDD, if_neg (by simpa using h0)]
 rw [ex] at hlen ⊢
 rw [Wy.fin_i, hne, cond_false, Wy.fin_bn, e, show ByteArray.mk #[(32 : UInt8), (43 : UInt8), (32 : UInt8)] = bs [32, 43, 32] from rfl]
 unfold strings_Join
 simp only [cond_true, Wy.fin_bn, Wy.fin_k, zG2 _ _ (by rw [List.length_map]; omega) hlen]
theorem zQT {V : List Term → Bool} (x : Atom) (hx : zeF V x = true) (hw : zlm x) (hi : x.Items.length ≤ 1024) (hg : ∀ a, (a ∈ x.Args ∨ ∃ w ∈ x.Items, a = w.Ann) → gT a = (true, bs (txN a)) ∧ (txN a).length ≤ 4200000000) : zhg gT x = (true, bs (txA x)) := by
 have hreach : zP = 70368744177664 := rfl
 have W := zu1 hw
 unfold zhg zlP
 rw [zRb]
 cases zfv.1 hx with
 | var r h =>
  have hr := W.2.2.2.2.1
  simp only [Wy.fin_bn, Wy.fin_i, Wy.fin_k, zPk h (zj5 hr.1) (zj5 hr.2)]
  simp [zcG]
 | mon a b ha hb _ _ _ =>
  obtain ⟨g1, l1⟩ := hg a (.inl (by simp))
  obtain ⟨g2, l2⟩ := hg b (.inl (by simp))
  rw [zj2]
  simp only [List.map, zcG, List.getD_cons_zero, List.getD_cons_succ, show ¬ (1 : Int) = 0 by decide, if_false, if_true]
  rw [show ByteArray.mk #[(109 : UInt8), (111 : UInt8), (110 : UInt8), (117 : UInt8), (115 : UInt8), (91 : UInt8)] = bs [109, 111, 110, 117, 115, 91] from rfl, show ByteArray.mk #[(44 : UInt8), (32 : UInt8)] = bs [44, 32] from rfl, show ByteArray.mk #[(93 : UInt8)] = bs [93] from rfl]
  simp only [cond_true, cond_false, Wy.fin_i, Wy.fin_bn, Wy.fin_k, show ((1 : Int) == 0) = false from rfl, show ((1 : Int) == 1) = true from rfl, show (decide ((0 : Int) ≤ 0) && decide ((0 : Int) < Int.ofNat [a, b].length)) = true from rfl, show (decide ((0 : Int) ≤ 1) && decide ((1 : Int) < Int.ofNat [a, b].length)) = true from rfl, show [a, b].getD (Int.toNat 0) default = a from rfl, show [a, b].getD (Int.toNat 1) default = b from rfl, g1, g2, zuY, zn8, List.length_append, List.length_cons, List.length_nil]
  rw [okS _ _ (by omega), okS _ _ (by omega), okS _ _ (by omega), okS _ _ (by omega)]
  simp
 | del a ha _ _ _ =>
  obtain ⟨g1, l1⟩ := hg a (.inl (by simp))
  rw [zj2]
  simp only [List.map, zcG, List.getD_cons_zero, show ¬ (2 : Int) = 0 by decide, show ¬ (2 : Int) = 1 by decide, if_false, if_true]
  rw [show ByteArray.mk #[(100 : UInt8), (101 : UInt8), (108 : UInt8), (116 : UInt8), (97 : UInt8), (91 : UInt8)] = bs [100, 101, 108, 116, 97, 91] from rfl, show ByteArray.mk #[(93 : UInt8)] = bs [93] from rfl]
  simp only [cond_true, cond_false, Wy.fin_i, Wy.fin_bn, Wy.fin_k, show ((2 : Int) == 0) = false from rfl, show ((2 : Int) == 1) = false from rfl, show ((2 : Int) == 2) = true from rfl, show (decide ((0 : Int) ≤ 0) && decide ((0 : Int) < Int.ofNat [a].length)) = true from rfl, show [a].getD (Int.toNat 0) default = a from rfl, g1, zuY, zn8, List.length_append, List.length_cons, List.length_nil]
  rw [okS _ _ (by omega), okS _ _ (by omega)]
  simp
 | abs a ha _ _ =>
  obtain ⟨g1, l1⟩ := hg a (.inl (by simp))
  rw [zj2]
  simp only [List.map, zcG, List.getD_cons_zero, show ¬ (3 : Int) = 0 by decide, show ¬ (3 : Int) = 1 by decide, show ¬ (3 : Int) = 2 by decide, if_false, if_true]
  rw [show ByteArray.mk #[(97 : UInt8), (98 : UInt8), (115 : UInt8), (101 : UInt8), (110 : UInt8), (116 : UInt8), (91 : UInt8)] = bs [97, 98, 115, 101, 110, 116, 91] from rfl, show ByteArray.mk #[(93 : UInt8)] = bs [93] from rfl]
  simp only [cond_true, cond_false, Wy.fin_i, Wy.fin_bn, Wy.fin_k, show ((3 : Int) == 0) = false from rfl, show ((3 : Int) == 1) = false from rfl, show ((3 : Int) == 2) = false from rfl, show ((3 : Int) == 3) = true from rfl, show (decide ((0 : Int) ≤ 0) && decide ((0 : Int) < Int.ofNat [a].length)) = true from rfl, show [a].getD (Int.toNat 0) default = a from rfl, g1, zuY, zn8, List.length_append, List.length_cons, List.length_nil]
  rw [okS _ _ (by omega), okS _ _ (by omega)]
  simp
 | tst f l o b hl hv hs hf =>
  obtain ⟨⟨f0, f3, o5, o10⟩, hb, hit⟩ := zrL hf
  have hwl := zpS W.2.1.1
  have hwb : rng b.Int := zj5 W.2.2.1.2.1
  have := zdR (W := zhO gT) (z := default) l.length (fun i => ((), (), l, (l.length : Int), (i : Int), ())) (fun i => ((⟨4, ⟨0, 0⟩, [], f, l, o, b⟩ : Atom), (l.take i).map fun w => bs (txI w), ())) (fun _ => true) default ((⟨4, ⟨0, 0⟩, [], f, l, o, b⟩ : Atom), l.map fun w => bs (txI w))
   (fun i hi' H K D => by
    show (zeN gT l l.length i (⟨4, ⟨0, 0⟩, [], f, l, o, b⟩ : Atom) ((l.take i).map fun w => bs (txI w))).ev H K D = _
    unfold zeN
    have hm := zC hi'
    obtain ⟨g1, l1⟩ := hg _ (.inr ⟨_, hm, rfl⟩)
    have l2 := zC2 (hit _ hm).1
    rw [show ByteArray.mk #[(58 : UInt8), (32 : UInt8)] = bs [58, 32] from rfl]
    simp only [Wy.ev_i, Wy.ev_k, Wy.ev_h, Wy.ev_bn, Wy.ev_d, tT, hi', zLf (hit _ hm).1 (zj5 (hwl _ hm).1.2.1), g1, zuY, zn8, List.length_append, List.length_cons, List.length_nil]
    rw [okS _ _ (by omega), okS _ _ (by omega), zY (by simp only at hi; omega), zj7 hi', List.map_append]
    have hb : decide ((((l.take i).map fun w => bs (txI w)).length + 1) * 16 ≤ zP) = true := by simp only at hi; simp only [decide_eq_true_eq, List.length_map, List.length_take]; omega
    generalize ((l.take i).map fun w => bs (txI w)) = out at hb ⊢
    have hb' : decide ((out.length + (0 + 1)) * 16 ≤ zP) = true := hb
    simp only [hb, hb', cond_true, List.map_cons, List.map_nil, txI, List.append_assoc])
   (fun H K D => by
    show (zeN gT l l.length l.length (⟨4, ⟨0, 0⟩, [], f, l, o, b⟩ : Atom) ((l.take l.length).map fun w => bs (txI w))).ev H K D = _
    unfold zeN
    simp only [Wy.ev_i, Wy.ev_k, tT, Nat.lt_irrefl, List.take_length]) (l.length + (Int.ofNat l.length).toNat + Int.toNat (0 : Int) + ([] : List (List Term)).length + l.length + (0 : Nat) + (1 : Nat)) (by omega)
  rw [show allN (fun _ => true) l.length 0 = true from zea.2 fun _ _ _ => rfl] at this
  have e : zoW gT (l.length + (Int.ofNat l.length).toNat + Int.toNat (0 : Int) + ([] : List (List Term)).length + l.length + (0 : Nat) + (1 : Nat)) l (Int.ofNat l.length) (0 : Int) (⟨4, ⟨0, 0⟩, [], f, l, o, b⟩ : Atom) [] = (true, ((⟨4, ⟨0, 0⟩, [], f, l, o, b⟩ : Atom), (l.map txI).map bs)) := by rw [List.map_map]; exact this
  simp only at hi
  have hlen : (zdY (l.map txI) [59, 32]).length ≤ 5000000000000 := by
   refine Nat.le_trans (zE6 (B := 4200001000) (l.map txI) [59, 32] fun y hy => ?_) (by
    rw [List.length_map]; have := Nat.mul_le_mul hi (Nat.le_refl 4200001000); omega)
   obtain ⟨w, hw, rfl⟩ := List.mem_map.1 hy
   have h1 := (hg _ (.inr ⟨w, hw, rfl⟩)).2
   have h2 := zC2 (hit w hw).1
   simp only [txI, List.length_append, List.length_cons, List.length_nil]; omega
  have l3 := zMn f
  have l4 := zMe o
  have l5 := zC2 hb
  rw [zAe]
  simp only [zcG, show ¬ (4 : Int) = 0 by decide, show ¬ (4 : Int) = 1 by decide, show ¬ (4 : Int) = 2 by decide, show ¬ (4 : Int) = 3 by decide, if_false]
  rw [show ByteArray.mk #[(116 : UInt8), (101 : UInt8), (115 : UInt8), (116 : UInt8), (91 : UInt8)] = bs [116, 101, 115, 116, 91] from rfl, show ByteArray.mk #[(123 : UInt8)] = bs [123] from rfl, show ByteArray.mk #[(125 : UInt8), (32 : UInt8)] = bs [125, 32] from rfl, show ByteArray.mk #[(59 : UInt8), (32 : UInt8)] = bs [59, 32] from rfl, show ByteArray.mk #[(32 : UInt8)] = bs [32] from rfl, show ByteArray.mk #[(93 : UInt8)] = bs [93] from rfl]
  simp only [Wy.fin_i, show ((4 : Int) == 0) = false from rfl, show ((4 : Int) == 1) = false from rfl, show ((4 : Int) == 2) = false from rfl, show ((4 : Int) == 3) = false from rfl, cond_false]
  unfold strings_Join
  obtain ⟨fb, ft⟩ := zPV f0 f3
  obtain ⟨ob, ot⟩ := zQl o5 o10
  rw [e, zF0]
  simp only [Wy.fin_i, Wy.fin_k, Wy.fin_bn, fb, ft, ob, ot, zG2 _ _ (show (l.map txI).length ≤ 140737488355328 by rw [List.length_map]; omega) (show (zdY (l.map txI) [59, 32]).length ≤ 140737488355328 by omega), zLf hb hwb, cond_true, zuY, zn8, List.length_append, List.length_cons, List.length_nil]
  rw [okS _ _ (by omega), okS _ _ (by omega), okS _ _ (by omega), okS _ _ (by omega), okS _ _ (by omega), okS _ _ (by omega), okS _ _ (by omega), okS _ _ (by omega)]
  simp
end
theorem zK3 : ∀ n,
  (∀ m a, zbP m a = true → zhZ a → 3 * m ≤ n → zlg n a = (true, bs (txN a))) ∧
  (∀ m x, zeF (zbP m) x = true → zlm x → x.Items.length ≤ 1024 → 3 * m + 1 ≤ n → zjI n x = (true, bs (txA x))) ∧
  (∀ m (l : List Factor), l.length ≤ 1000 → (∀ f ∈ l, zeF (zbP m) f.Atom = true ∧ zlm f.Atom ∧ f.Atom.Items.length ≤ 1024 ∧ rng f.Exp) → 3 * m + 2 ≤ n → ze4 n l = (true, bs (txL l)))
 | 0 => by
  refine ⟨?_, ?_, ?_⟩
  ·intro m a h _ hm; have : m = 0 := by omega
   subst this; cases h
  all_goals (intros; omega)
 | n + 1 => by
  obtain ⟨h1, h2, h3⟩ := zK3 n
  refine ⟨?_, ?_, ?_⟩
  ·intro m a h hw hm
   cases m with
   | zero => cases h
   | succ m =>
    have hl := zzz (zB1 h)
    have hlen := (zF1 (m + 1)).1 a h
    rw [zDI]
    refine zQQ _ a (by omega) (by omega) fun t ht => ?_
    obtain ⟨⟨c1, c2⟩, hok⟩ := zqH h ht
    obtain ⟨q1, q2⟩ := hl.2.2.2 t ht
    have hwt := zpE (zvD (ztU hw t ht)).2.1
    refine ⟨h3 m t.Factors (by omega) (fun f hf => ?_) (by omega), ?_, by constructor <;> omega⟩
    ·obtain ⟨⟨e1, _⟩, hv⟩ := zni hok hf
     exact ⟨hv, (zqJ (hwt f hf)).1, (q2 f hf).2, by have := (q2 f hf).1; constructor <;> omega⟩
    ·refine Nat.le_trans (zLd fun f hf => (zF1 m).2 _ (zni hok hf).2) ?_
     have hs : t.Factors.length + zbA t.Factors ≤ zK a := by
      clear hok q1 q2 hwt hw h hlen hl
      induction a with
      | nil => cases ht
      | cons b r ih =>
       rw [ziJ]
       rcases List.mem_cons.1 ht with rfl | ht
       ·omega
       ·have := ih ht; omega
     omega
  ·intro m x h hw hi hm
   rw [zyE]
   have W := zu1 hw
   refine zQT _ x h hw hi fun a ha => ?_
   have hv : zbP m a = true ∧ zhZ a := by
    rcases ha with ha | ⟨w, hw', rfl⟩
    ·refine ⟨?_, (zlB W.1.1 a ha).1⟩
     cases zfv.1 h with
     | var r h => cases ha
     | mon b c hb hc _ _ _ =>
      simp only [List.mem_cons, List.not_mem_nil, or_false] at ha
      rcases ha with rfl | rfl
      ·exact hb
      ·exact hc
     | del b hb _ _ _ => rw [List.mem_singleton] at ha; subst ha; exact hb
     | abs b hb _ _ => rw [List.mem_singleton] at ha; subst ha; exact hb
     | tst f l o b hl hi hs hf => cases ha
    ·refine ⟨?_, (zpS W.2.1.1 w hw').2.1⟩
     cases zfv.1 h with
     | tst f l o b hl hi2 hs hf => exact (hi2 w hw').1
     | _ => cases hw'
   refine ⟨h1 m a hv.1 hv.2 (by omega), ?_⟩
   have q1 := (zF1 m).1 a hv.1
   have q2 := (zjW hv.1).2.1
   omega
  ·intro m l hl h hm
   rw [zvV]
   refine zQY _ l hl fun f hf => ?_
   obtain ⟨q1, q2, q3, q4⟩ := h f hf
   refine ⟨h2 m f.Atom q1 q2 q3 (by omega), ?_, q4⟩
   have q5 := (zF1 m).2 f.Atom q1
   have q6 := zGN q1 q3
   omega
def hd (S : List UInt8) (u : List UInt8) : Prop := ∀ c, u.head? = some c → c ∈ S
theorem zlZ {S : List UInt8} {c : UInt8} {u : List UInt8} (h : c ∈ S) : hd S (c :: u) := fun d hd => by
 simp only [List.head?_cons, Option.some.injEq] at hd; subst hd; exact h
theorem hd.mono {S T : List UInt8} {u : List UInt8} (h : hd S u) (hs : ∀ c ∈ S, c ∈ T) : hd T u := fun c hc => hs c (h c hc)
theorem hd.noDig {S : List UInt8} {u : List UInt8} (h : hd S u) (hs : ∀ c ∈ S, isDg c = false) : noDig u := fun c hc => hs c (h c hc)
theorem hd.ne {S : List UInt8} {u : List UInt8} (h : hd S u) {c : UInt8} (hs : c ∉ S) : u.head? ≠ some c := fun e => hs (h c e)
theorem hd.cons_ne {S : List UInt8} {u : List UInt8} {c : UInt8} (h : hd S (c :: u)) (hs : c ∉ S) : False := hs (h c rfl)
theorem zBJ {α : Type} (tx : α → List UInt8) (S0 : List UInt8) (s0 : UInt8) (sr : List UInt8) (P : α → Prop) (hS : s0 ∉ S0) (hR : ∀ x y, P x → P y → ∀ u v, hd (s0 :: S0) u → hd (s0 :: S0) v → tx x ++ u = tx y ++ v → x = y ∧ u = v) :
  ∀ l l' : List α, l ≠ [] → l' ≠ [] → (∀ x ∈ l, P x) → (∀ x ∈ l', P x) → ∀ u v, hd S0 u → hd S0 v → zdY (l.map tx) (s0 :: sr) ++ u = zdY (l'.map tx) (s0 :: sr) ++ v → l = l' ∧ u = v
 | [], _, h, _, _, _, _, _, _, _, _ => absurd rfl h
 | _ :: _, [], _, h, _, _, _, _, _, _, _ => absurd rfl h
 | [x], [y], _, _, hx, hy, u, v, hu, hv, h => by
  have mono : ∀ c ∈ S0, c ∈ s0 :: S0 := fun c hc => List.mem_cons_of_mem _ hc
  obtain ⟨h1, h2⟩ := hR x y (hx x (by simp)) (hy y (by simp)) u v (hu.mono mono) (hv.mono mono) h
  exact ⟨by rw [h1], h2⟩
 | [x], y :: y' :: r', _, _, hx, hy, u, v, hu, hv, h => by
  have mono : ∀ c ∈ S0, c ∈ s0 :: S0 := fun c hc => List.mem_cons_of_mem _ hc
  simp only [List.map, zdY, List.append_assoc] at h
  obtain ⟨h1, h2⟩ := hR x y (hx x (by simp)) (hy y (by simp)) u _ (hu.mono mono) (zlZ (by simp)) h
  rw [h2] at hu
  exact (hu.cons_ne hS).elim
 | x :: x' :: r, [y], _, _, hx, hy, u, v, hu, hv, h => by
  have mono : ∀ c ∈ S0, c ∈ s0 :: S0 := fun c hc => List.mem_cons_of_mem _ hc
  simp only [List.map, zdY, List.append_assoc] at h
  obtain ⟨h1, h2⟩ := hR x y (hx x (by simp)) (hy y (by simp)) _ v (zlZ (by simp)) (hv.mono mono) h
  rw [← h2] at hv
  exact (hv.cons_ne hS).elim
 | x :: x' :: r, y :: y' :: r', _, _, hx, hy, u, v, hu, hv, h => by
  have h : zdY (((x :: x' :: r)).map tx) (s0 :: sr) ++ u = zdY (((y :: y' :: r')).map tx) (s0 :: sr) ++ v := h
  simp only [List.map, zdY, List.append_assoc] at h
  obtain ⟨h1, h2⟩ := hR x y (hx x (by simp)) (hy y (by simp)) _ _ (zlZ (by simp)) (zlZ (by simp)) h
  have h3 := (List.append_right_inj sr).1 (List.cons.inj h2).2
  obtain ⟨h4, h5⟩ := zBJ tx S0 s0 sr P hS hR (x' :: r) (y' :: r') (by simp) (by simp) (fun z hz => hx z (List.mem_cons_of_mem _ hz)) (fun z hz => hy z (List.mem_cons_of_mem _ hz)) u v hu hv h3
  exact ⟨by rw [h1, h4], h5⟩
theorem zJ2 {t : ByteArray} (h : t.size = 0) : t = ByteArray.mk #[] := zxl (by
 have : t.data.toList.length = 0 := by rw [Array.length_toList]; exact h
 rw [List.length_eq_zero_iff.1 this])
theorem zK4 {x y : Value} (hx : valV x = true) (hy : valV y = true) (rx : rng x.Int) (ry : rng y.Int) {u v : List UInt8} (hu : hd [58, 93] u) (hv : hd [58, 93] v) (h : txV x ++ u = txV y ++ v) : x = y ∧ u = v := by
 have d1 : ∀ c ∈ ([58, 93] : List UInt8), isDg c = false := by decide
 obtain ⟨cx, sx, ex, dx⟩ := zJx rx.1 rx.2
 obtain ⟨cy, sy, ey, dy⟩ := zJx ry.1 ry.2
 have nd : ∀ c : UInt8, c = 45 ∨ isDg c = true → c ≠ 39 ∧ c ≠ 84 ∧ c ≠ 70 := fun c hc => by
  refine ⟨?_, ?_, ?_⟩ <;> (intro e; subst e; revert hc; decide)
 obtain ⟨kx, ix, tx⟩ := x
 obtain ⟨ky, iy, ty⟩ := y
 simp only [valV, Bool.or_eq_true, Bool.and_eq_true, beq_iff_eq, decide_eq_true_eq] at hx hy
 simp only at rx ry ex ey
 rcases hx with (⟨rfl, hx⟩ | ⟨⟨rfl, rfl⟩, hx⟩) | ⟨⟨rfl, hx⟩, hx2⟩
 ·have := zJ2 hx; subst this
  rcases hy with (⟨rfl, hy⟩ | ⟨⟨rfl, rfl⟩, hy⟩) | ⟨⟨rfl, hy⟩, hy2⟩
  ·have := zJ2 hy; subst this
   simp only [txV, if_true] at h
   obtain ⟨h1, h2⟩ := zoR rx ry (hu.noDig d1) (hv.noDig d1) h
   exact ⟨by rw [h1], h2⟩
  ·simp only [txV, if_true, show ¬ (1 : Int) = 0 by decide, if_false, ex, List.cons_append, List.cons.injEq] at h
   exact absurd h.1 (nd cx dx).1
  ·rcases hy2 with rfl | rfl
   ·simp only [txV, if_true, show ¬ (2 : Int) = 0 by decide, show ¬ (2 : Int) = 1 by decide, show ¬ (0 : Int) = 1 by decide, if_false, ex, List.cons_append, List.cons.injEq] at h
    exact absurd h.1 (nd cx dx).2.2
   ·simp only [txV, if_true, show ¬ (2 : Int) = 0 by decide, show ¬ (2 : Int) = 1 by decide, if_false, ex, List.cons_append, List.cons.injEq] at h
    exact absurd h.1 (nd cx dx).2.1
 ·rcases hy with (⟨rfl, hy⟩ | ⟨⟨rfl, rfl⟩, hy⟩) | ⟨⟨rfl, hy⟩, hy2⟩
  ·simp only [txV, if_true, show ¬ (1 : Int) = 0 by decide, if_false, ey, List.cons_append, List.cons.injEq] at h
   exact absurd h.1.symm (nd cy dy).1
  ·simp only [txV, if_true, show ¬ (1 : Int) = 0 by decide, if_false, List.cons_append, List.cons.injEq, true_and, List.append_assoc, List.nil_append] at h
   obtain ⟨h1, h2⟩ := zG4 _ _ u v (hu.ne (by decide)) (hv.ne (by decide)) h
   exact ⟨by rw [zxl h1], h2⟩
  ·rcases hy2 with rfl | rfl <;> simp [txV] at h
 ·have := zJ2 hx; subst this
  rcases hy with (⟨rfl, hy⟩ | ⟨⟨rfl, rfl⟩, hy⟩) | ⟨⟨rfl, hy⟩, hy2⟩
  ·rcases hx2 with rfl | rfl
   ·simp only [txV, if_true, show ¬ (2 : Int) = 0 by decide, show ¬ (2 : Int) = 1 by decide, show ¬ (0 : Int) = 1 by decide, if_false, ey, List.cons_append, List.cons.injEq] at h
    exact absurd h.1.symm (nd cy dy).2.2
   ·simp only [txV, if_true, show ¬ (2 : Int) = 0 by decide, show ¬ (2 : Int) = 1 by decide, if_false, ey, List.cons_append, List.cons.injEq] at h
    exact absurd h.1.symm (nd cy dy).2.1
  ·rcases hx2 with rfl | rfl <;> simp [txV] at h
  ·have := zJ2 hy; subst this
   rcases hx2 with rfl | rfl <;> rcases hy2 with rfl | rfl <;> simp [txV] at h
   ·exact ⟨rfl, h⟩
   ·exact ⟨rfl, h⟩
theorem zPj {f g : Int} (hf : 0 ≤ f ∧ f ≤ 3) (hg : 0 ≤ g ∧ g ≤ 3) {u v : List UInt8} (h : fnT f ++ 123 :: u = fnT g ++ 123 :: v) : f = g ∧ u = v := by
 have c1 : f = 0 ∨ f = 1 ∨ f = 2 ∨ f = 3 := by omega
 have c2 : g = 0 ∨ g = 1 ∨ g = 2 ∨ g = 3 := by omega
 rcases c1 with rfl | rfl | rfl | rfl <;> rcases c2 with rfl | rfl | rfl | rfl <;> simp [fnT] at h <;> exact ⟨rfl, h⟩
theorem zO8 {f g : Int} (hf : 5 ≤ f ∧ f ≤ 10) (hg : 5 ≤ g ∧ g ≤ 10) {u v : List UInt8} (h : opT f ++ 32 :: u = opT g ++ 32 :: v) : f = g ∧ u = v := by
 have c1 : f = 5 ∨ f = 6 ∨ f = 7 ∨ f = 8 ∨ f = 9 ∨ f = 10 := by omega
 have c2 : g = 5 ∨ g = 6 ∨ g = 7 ∨ g = 8 ∨ g = 9 ∨ g = 10 := by omega
 rcases c1 with rfl | rfl | rfl | rfl | rfl | rfl <;> rcases c2 with rfl | rfl | rfl | rfl | rfl | rfl <;> simp [opT] at h <;> exact ⟨rfl, h⟩
def SN : List UInt8 := [93, 44, 59, 125]
def ST : List UInt8 := 32 :: SN
def SF : List UInt8 := 42 :: ST
def SA : List UInt8 := 94 :: SF
theorem zHM : ∀ c ∈ SA, isDg c = false := by decide
theorem zRQ : ∀ c ∈ ST, c ∈ SA := by decide
theorem zHz : ∀ c ∈ SF, c ∈ SA := by decide
def RdN (V : List Term → Bool) : Prop := ∀ a b, V a = true → V b = true → zhZ a → zhZ b → ∀ u v, hd SN u → hd SN v → txN a ++ u = txN b ++ v → a = b ∧ u = v
def RdA (V : List Term → Bool) : Prop := ∀ x y, zeF V x = true → zeF V y = true → zlm x → zlm y → ∀ u v, hd SA u → hd SA v → txA x ++ u = txA y ++ v → x = y ∧ u = v
theorem zPn {V : List Term → Bool} {x : Atom} (h : zeF V x = true) : ∃ c r, txA x = c :: r ∧ isDg c = false := by
 cases zfv.1 h with
 | var r h => rw [txA]; exact ⟨116, _, rfl, rfl⟩
 | mon a b _ _ _ _ _ => rw [txA]; exact ⟨109, _, rfl, rfl⟩
 | del a _ _ _ _ => rw [txA]; exact ⟨100, _, rfl, rfl⟩
 | abs a _ _ _ => rw [txA]; exact ⟨97, _, rfl, rfl⟩
 | tst f l o b _ _ _ _ => rw [txA]; exact ⟨116, _, rfl, rfl⟩
theorem zNV {V : List Term → Bool} (hV : RdN V) : RdA V := by
 intro x y hx hy wx wy u v hu hv h
 have Wx := zu1 wx
 have Wy := zu1 wy
 have k0 : ¬ (1 : Int) = 0 := by decide
 have c44 : ∀ z, hd SN (44 :: z) := fun z => zlZ (by decide)
 have c93 : ∀ z, hd SN (93 :: z) := fun z => zlZ (by decide)
 have tE : ∀ (r : RowID), zzB r = true → rng r.Table → ∀ w z, zg9 r.Table ++ w ≠ 101 :: z := fun r hr hg w z e => by
  simp only [zzB, Bool.and_eq_true, decide_eq_true_eq] at hr
  obtain ⟨d1, d2⟩ := zNK (show 0 ≤ r.Table by omega) hg.2
  cases hl : zg9 r.Table with
  | nil => exact d2 hl
  | cons c s =>
   rw [hl] at e d1
   simp only [List.cons_append, List.cons.injEq] at e
   rw [List.all_cons, e.1] at d1
   revert d1; simp [isDg]
 cases zfv.1 hx with
 | var r hr =>
  have rr := Wx.2.2.2.2.1
  simp only at rr
  cases zfv.1 hy with
  | var r' hr' =>
   have rr' := Wy.2.2.2.2.1
   simp only at rr'
   rw [txA, txA] at h
   simp only [zcG, if_true, txR, List.cons_append, List.cons.injEq, true_and, List.append_assoc] at h
   obtain ⟨h1, h2⟩ := zoR (zj5 rr.1) (zj5 rr'.1) (fun c hc => by simp only [List.head?_cons, Option.some.injEq] at hc; subst hc; rfl) (fun c hc => by simp only [List.head?_cons, Option.some.injEq] at hc; subst hc; rfl) h
   simp only [List.cons.injEq, true_and] at h2
   obtain ⟨h3, h4⟩ := zoR (zj5 rr.2) (zj5 rr'.2) (hu.noDig zHM) (hv.noDig zHM) h2
   obtain ⟨t, s⟩ := r; obtain ⟨t', s'⟩ := r'
   simp only at h1 h3
   exact ⟨by rw [h1, h3], h4⟩
  | tst f l o b _ _ _ _ =>
   rw [txA, txA] at h
   simp only [zcG, if_true, txR, show ¬ (4 : Int) = 0 by decide, show ¬ (4 : Int) = 1 by decide, show ¬ (4 : Int) = 2 by decide, show ¬ (4 : Int) = 3 by decide, if_false, List.cons_append, List.cons.injEq, true_and, List.append_assoc] at h
   exact absurd h (tE r hr (zj5 rr.1) _ _)
  | mon a b _ _ _ _ _ => rw [txA, txA] at h; simp [zcG, txR] at h
  | del a _ _ _ _ => rw [txA, txA] at h; simp [zcG, txR] at h
  | abs a _ _ _ => rw [txA, txA] at h; simp [zcG, txR] at h
 | mon a b ha hb _ _ _ =>
  cases zfv.1 hy with
  | mon a' b' ha' hb' _ _ _ =>
   rw [txA, txA, zj2, zj2] at h
   simp only [zcG, if_true, k0, if_false, List.map, List.getD_cons_zero, List.getD_cons_succ, List.cons_append, List.cons.injEq, true_and, List.append_assoc, List.nil_append] at h
   have wa := fun z hz => (zlB Wx.1.1 z hz).1
   have wb := fun z hz => (zlB Wy.1.1 z hz).1
   obtain ⟨h1, h2⟩ := hV a a' ha ha' (wa a (by simp)) (wb a' (by simp)) _ _ (c44 _) (c44 _) h
   simp only [List.cons.injEq, true_and] at h2
   obtain ⟨h3, h4⟩ := hV b b' hb hb' (wa b (by simp)) (wb b' (by simp)) _ _ (c93 _) (c93 _) h2
   simp only [List.cons.injEq, true_and] at h4
   exact ⟨by rw [h1, h3], h4⟩
  | var r h => rw [txA, txA] at h; simp [zcG, txR] at h
  | del a _ _ _ _ => rw [txA, txA] at h; simp [zcG, txR] at h
  | abs a _ _ _ => rw [txA, txA] at h; simp [zcG, txR] at h
  | tst f l o b _ _ _ _ => rw [txA, txA] at h; simp [zcG, txR] at h
 | del a ha _ _ _ =>
  cases zfv.1 hy with
  | del a' ha' _ _ _ =>
   rw [txA, txA, zj2, zj2] at h
   simp only [zcG, if_true, show ¬ (2 : Int) = 0 by decide, show ¬ (2 : Int) = 1 by decide, if_false, List.map, List.getD_cons_zero, List.cons_append, List.cons.injEq, true_and, List.append_assoc, List.nil_append] at h
   have wa := fun z hz => (zlB Wx.1.1 z hz).1
   have wb := fun z hz => (zlB Wy.1.1 z hz).1
   obtain ⟨h1, h2⟩ := hV a a' ha ha' (wa a (by simp)) (wb a' (by simp)) _ _ (c93 _) (c93 _) h
   simp only [List.cons.injEq, true_and] at h2
   exact ⟨by rw [h1], h2⟩
  | var r h => rw [txA, txA] at h; simp [zcG, txR] at h
  | mon a b _ _ _ _ _ => rw [txA, txA] at h; simp [zcG, txR] at h
  | abs a _ _ _ => rw [txA, txA] at h; simp [zcG, txR] at h
  | tst f l o b _ _ _ _ => rw [txA, txA] at h; simp [zcG, txR] at h
 | abs a ha _ _ =>
  cases zfv.1 hy with
  | abs a' ha' _ _ =>
   rw [txA, txA, zj2, zj2] at h
   simp only [zcG, if_true, show ¬ (3 : Int) = 0 by decide, show ¬ (3 : Int) = 1 by decide, show ¬ (3 : Int) = 2 by decide, if_false, List.map, List.getD_cons_zero, List.cons_append, List.cons.injEq, true_and, List.append_assoc, List.nil_append] at h
   have wa := fun z hz => (zlB Wx.1.1 z hz).1
   have wb := fun z hz => (zlB Wy.1.1 z hz).1
   obtain ⟨h1, h2⟩ := hV a a' ha ha' (wa a (by simp)) (wb a' (by simp)) _ _ (c93 _) (c93 _) h
   simp only [List.cons.injEq, true_and] at h2
   exact ⟨by rw [h1], h2⟩
  | var r h => rw [txA, txA] at h; simp [zcG, txR] at h
  | mon a b _ _ _ _ _ => rw [txA, txA] at h; simp [zcG, txR] at h
  | del a _ _ _ _ => rw [txA, txA] at h; simp [zcG, txR] at h
  | tst f l o b _ _ _ _ => rw [txA, txA] at h; simp [zcG, txR] at h
 | tst f l o b hl hi hs hf =>
  cases zfv.1 hy with
  | tst f' l' o' b' hl' hi' hs' hf' =>
   obtain ⟨⟨f0, f3, o5, o10⟩, hb, hit⟩ := zrL hf
   obtain ⟨⟨f0', f3', o5', o10'⟩, hb', hit'⟩ := zrL hf'
   have wl := zpS Wx.2.1.1
   have wl' := zpS Wy.2.1.1
   rw [txA, txA, zAe, zAe] at h
   simp only [zcG, show ¬ (4 : Int) = 0 by decide, show ¬ (4 : Int) = 1 by decide, show ¬ (4 : Int) = 2 by decide, show ¬ (4 : Int) = 3 by decide, if_false, List.cons_append, List.cons.injEq, true_and, List.append_assoc, List.nil_append] at h
   obtain ⟨h1, h2⟩ := zPj ⟨f0, f3⟩ ⟨f0', f3'⟩ h
   obtain ⟨h3, h4⟩ := zBJ txI [125] 59 [32] (fun w => (V w.Ann = true ∧ zhZ w.Ann) ∧ valV w.Value = true ∧ rng w.Value.Int) (by decide) (fun x y px py u v hu hv e => by
    simp only [txI, List.append_assoc, List.cons_append, List.nil_append] at e
    obtain ⟨e1, e2⟩ := zK4 px.2.1 py.2.1 px.2.2 py.2.2 (zlZ (by decide)) (zlZ (by decide)) e
    simp only [List.cons.injEq, true_and] at e2
    obtain ⟨e3, e4⟩ := hV _ _ px.1.1 py.1.1 px.1.2 py.1.2 u v (hu.mono (by decide)) (hv.mono (by decide)) e2
    obtain ⟨vx, ax⟩ := x; obtain ⟨vy, ay⟩ := y
    simp only at e1 e3
    exact ⟨by rw [e1, e3], e4⟩) l l' hl hl' (fun w hw => ⟨⟨(hi w hw).1, (wl w hw).2.1⟩, (hit w hw).1, zj5 (wl w hw).1.2.1⟩) (fun w hw => ⟨⟨(hi' w hw).1, (wl' w hw).2.1⟩, (hit' w hw).1, zj5 (wl' w hw).1.2.1⟩) _ _ (zlZ (by decide)) (zlZ (by decide)) h2
   simp only [List.cons.injEq, true_and] at h4
   obtain ⟨h5, h6⟩ := zO8 ⟨o5, o10⟩ ⟨o5', o10'⟩ h4
   obtain ⟨h7, h8⟩ := zK4 hb hb' (zj5 Wx.2.2.1.2.1) (zj5 Wy.2.2.1.2.1) (zlZ (by decide)) (zlZ (by decide)) h6
   simp only [List.cons.injEq, true_and] at h8
   exact ⟨by rw [h1, h3, h5, h7], h8⟩
  | var r hr =>
   have rr := Wy.2.2.2.2.1
   simp only at rr
   rw [txA, txA] at h
   simp only [zcG, if_true, txR, show ¬ (4 : Int) = 0 by decide, show ¬ (4 : Int) = 1 by decide, show ¬ (4 : Int) = 2 by decide, show ¬ (4 : Int) = 3 by decide, if_false, List.cons_append, List.cons.injEq, true_and, List.append_assoc] at h
   exact absurd h.symm (tE r hr (zj5 rr.1) _ _)
  | mon a b _ _ _ _ _ => rw [txA, txA] at h; simp [zcG, txR] at h
  | del a _ _ _ _ => rw [txA, txA] at h; simp [zcG, txR] at h
  | abs a _ _ _ => rw [txA, txA] at h; simp [zcG, txR] at h
def gF (V : List Term → Bool) (f : Factor) : Prop := zeF V f.Atom = true ∧ zlm f.Atom ∧ rng f.Exp
theorem zRr {V : List Term → Bool} (hA : RdA V) {f g : Factor} (hf : gF V f) (hg : gF V g) {u v : List UInt8} (hu : hd SF u) (hv : hd SF v) (h : txF f ++ u = txF g ++ v) : f = g ∧ u = v := by
 obtain ⟨x, e⟩ := f; obtain ⟨y, e'⟩ := g
 obtain ⟨a1, a2, a3⟩ := hf; obtain ⟨b1, b2, b3⟩ := hg
 simp only at a1 a2 a3 b1 b2 b3
 have c94 : ∀ z, hd SA (94 :: z) := fun z => zlZ (by decide)
 have n94 : (94 : UInt8) ∉ SF := by decide
 have dg : ∀ c ∈ SF, isDg c = false := fun c hc => zHM c (zHz c hc)
 unfold txF zBI at h
 simp only at h
 by_cases h1 : e = 1
 ·by_cases h2 : e' = 1
  ·rw [if_pos h1, if_pos h2] at h
   obtain ⟨q1, q2⟩ := hA x y a1 b1 a2 b2 u v (hu.mono zHz) (hv.mono zHz) h
   exact ⟨by rw [q1, h1, h2], q2⟩
  ·rw [if_pos h1, if_neg h2, List.append_assoc] at h
   obtain ⟨q1, q2⟩ := hA x y a1 b1 a2 b2 u _ (hu.mono zHz) (c94 _) h
   rw [q2] at hu
   exact (hu.cons_ne n94).elim
 ·by_cases h2 : e' = 1
  ·rw [if_neg h1, if_pos h2, List.append_assoc] at h
   obtain ⟨q1, q2⟩ := hA x y a1 b1 a2 b2 _ v (c94 _) (hv.mono zHz) h
   rw [← q2] at hv
   exact (hv.cons_ne n94).elim
  ·rw [if_neg h1, if_neg h2, List.append_assoc, List.append_assoc] at h
   obtain ⟨q1, q2⟩ := hA x y a1 b1 a2 b2 _ _ (c94 _) (c94 _) h
   simp only [List.cons_append, List.cons.injEq, true_and] at q2
   obtain ⟨q3, q4⟩ := zoR a3 b3 (hu.noDig dg) (hv.noDig dg) q2
   exact ⟨by rw [q1, q3], q4⟩
theorem zIH {V : List Term → Bool} (hA : RdA V) {l l' : List Factor} (hl : l ≠ []) (hl' : l' ≠ []) (h1 : ∀ f ∈ l, gF V f) (h2 : ∀ f ∈ l', gF V f) {u v : List UInt8} (hu : hd ST u) (hv : hd ST v) (h : txL l ++ u = txL l' ++ v) : l = l' ∧ u = v := by
 unfold txL at h
 rw [zrc, zrc] at h
 exact zBJ txF ST 42 [] (gF V) (by decide) (fun x y px py u v hu hv e => zRr hA px py hu hv e) l l' hl hl' h1 h2 u v hu hv h
theorem zwQ {V : List Term → Bool} {l : List Factor} (hl : l ≠ []) (h : ∀ f ∈ l, gF V f) : ∃ c r, txL l = c :: r ∧ isDg c = false := by
 cases l with
 | nil => exact absurd rfl hl
 | cons f r =>
  obtain ⟨c, s, e, hc⟩ := zPn (h f (by simp)).1
  have : ∃ s', txF f = c :: s' := by
   unfold txF zBI
   split
   ·exact ⟨s, e⟩
   ·exact ⟨_, by rw [e]; rfl⟩
  obtain ⟨s', e'⟩ := this
  unfold txL
  rw [zrc]
  cases r with
  | nil => exact ⟨c, s', by simp only [List.map, zdY]; exact e', hc⟩
  | cons g r => exact ⟨c, _, by simp only [List.map, zdY]; rw [e']; rfl, hc⟩
def gT (V : List Term → Bool) (t : Term) : Prop := (1 ≤ t.Coeff ∧ t.Coeff ≤ 9223372036854775807) ∧ ∀ f ∈ t.Factors, gF V f
theorem zI0 {n : Int} (h : 1 ≤ n) (h2 : n ≤ 9223372036854775807) : ∃ c r, zg9 n = c :: r ∧ isDg c = true ∧ c ≠ 48 := by
 have e : zg9 n = Lib.decDigits n.toNat := by rw [zHf (by omega) h2, Lib.itoa, if_neg (by omega)]
 obtain ⟨a1, a2, a3, a4⟩ := zFH n.toNat n.toNat (Nat.le_refl _)
 rw [e]
 cases hl : Lib.decDigits n.toNat with
 | nil => exact absurd hl a3
 | cons c r =>
  rw [hl] at a1 a4
  rw [List.all_cons, Bool.and_eq_true] at a1
  exact ⟨c, r, rfl, a1.1, fun e => a4 (by omega) (by rw [e]; rfl)⟩
theorem zK0 {l : List Factor} : txFs l = [] ↔ l = [] := by rw [zrc, List.map_eq_nil_iff]
theorem zKS (t : Term) : txT t = if t.Factors = [] then zg9 t.Coeff else if t.Coeff = 1 then txL t.Factors else zg9 t.Coeff ++ 42 :: txL t.Factors := by
 unfold txT zFc
 by_cases h : t.Factors = []
 ·rw [if_pos (zK0.2 h), if_pos h]
 ·rw [if_neg (fun e => h (zK0.1 e)), if_neg h]; rfl
theorem zQ6 {V : List Term → Bool} (hA : RdA V) {s t : Term} (hs : gT V s) (ht : gT V t) {u v : List UInt8} (hu : hd ST u) (hv : hd ST v) (h : txT s ++ u = txT t ++ v) : s = t ∧ u = v := by
 obtain ⟨c, l⟩ := s; obtain ⟨c', l'⟩ := t
 obtain ⟨⟨c1, c2⟩, h1⟩ := hs; obtain ⟨⟨c1', c2'⟩, h2⟩ := ht
 simp only at c1 c2 h1 c1' c2' h2
 have dg : ∀ c ∈ ST, isDg c = false := fun c hc => zHM c (zRQ c hc)
 have n42 : (42 : UInt8) ∉ ST := by decide
 have d42 : ∀ z, noDig (42 :: z) := fun z c hc => by simp only [List.head?_cons, Option.some.injEq] at hc; subst hc; rfl
 have rc : rng c := ⟨by omega, c2⟩
 have rc' : rng c' := ⟨by omega, c2'⟩
 obtain ⟨d, r, e, hd, _⟩ := zI0 c1 c2
 obtain ⟨d', r', e', hd', _⟩ := zI0 c1' c2'
 rw [zKS, zKS] at h
 simp only at h
 by_cases l0 : l = []
 ·rw [if_pos l0] at h
  by_cases l0' : l' = []
  ·rw [if_pos l0'] at h
   obtain ⟨q1, q2⟩ := zoR rc rc' (hu.noDig dg) (hv.noDig dg) h
   exact ⟨by rw [q1, l0, l0'], q2⟩
  ·rw [if_neg l0'] at h
   by_cases k' : c' = 1
   ·rw [if_pos k'] at h
    obtain ⟨d2, r2, e2, hd2⟩ := zwQ l0' h2
    rw [e, e2] at h
    simp only [List.cons_append, List.cons.injEq] at h
    rw [h.1, hd2] at hd; cases hd
   ·rw [if_neg k', List.append_assoc] at h
    obtain ⟨q1, q2⟩ := zoR rc rc' (hu.noDig dg) (d42 _) h
    rw [q2] at hu
    exact (hu.cons_ne n42).elim
 ·rw [if_neg l0] at h
  by_cases k : c = 1
  ·rw [if_pos k] at h
   obtain ⟨d2, r2, e2, hd2⟩ := zwQ l0 h1
   by_cases l0' : l' = []
   ·rw [if_pos l0', e2, e'] at h
    simp only [List.cons_append, List.cons.injEq] at h
    rw [← h.1, hd2] at hd'; cases hd'
   ·rw [if_neg l0'] at h
    by_cases k' : c' = 1
    ·rw [if_pos k'] at h
     obtain ⟨q1, q2⟩ := zIH hA l0 l0' h1 h2 hu hv h
     exact ⟨by rw [q1, k, k'], q2⟩
    ·rw [if_neg k', e2, e'] at h
     simp only [List.cons_append, List.cons.injEq] at h
     rw [← h.1, hd2] at hd'; cases hd'
  ·rw [if_neg k, List.append_assoc] at h
   by_cases l0' : l' = []
   ·rw [if_pos l0'] at h
    obtain ⟨q1, q2⟩ := zoR rc rc' (d42 _) (hv.noDig dg) h
    rw [← q2] at hv
    exact (hv.cons_ne n42).elim
   ·rw [if_neg l0'] at h
    by_cases k' : c' = 1
    ·rw [if_pos k'] at h
     obtain ⟨d2, r2, e2, hd2⟩ := zwQ l0' h2
     rw [e, e2] at h
     simp only [List.cons_append, List.cons.injEq] at h
     rw [h.1, hd2] at hd; cases hd
    ·rw [if_neg k', List.append_assoc] at h
     obtain ⟨q1, q2⟩ := zoR rc rc' (d42 _) (d42 _) h
     simp only [List.cons_append, List.cons.injEq, true_and] at q2
     obtain ⟨q3, q4⟩ := zIH hA l0 l0' h1 h2 hu hv q2
     exact ⟨by rw [q1, q3], q4⟩
theorem zOZ {V : List Term → Bool} {t : Term} (ht : gT V t) : ∃ c r, txT t = c :: r ∧ c ≠ 48 := by
 obtain ⟨⟨c1, c2⟩, h1⟩ := ht
 obtain ⟨d, r, e, hd, h48⟩ := zI0 c1 c2
 rw [zKS]
 by_cases l0 : t.Factors = []
 ·rw [if_pos l0]; exact ⟨d, r, e, h48⟩
 ·rw [if_neg l0]
  split
  ·obtain ⟨d2, r2, e2, hd2⟩ := zwQ l0 h1
   exact ⟨d2, r2, e2, fun e => by rw [e] at hd2; revert hd2; decide⟩
  ·exact ⟨d, _, by rw [e]; rfl, h48⟩
theorem zQ2 {V : List Term → Bool} (hA : RdA V) {a b : List Term} (ha : ∀ t ∈ a, gT V t) (hb : ∀ t ∈ b, gT V t) {u v : List UInt8} (hu : hd SN u) (hv : hd SN v) (h : txN a ++ u = txN b ++ v) : a = b ∧ u = v := by
 have en : ∀ z : List Term, z ≠ [] → txN z = zdY (z.map txT) [32, 43, 32] := fun z hz => by
  unfold txN zDt; rw [zDD, if_neg (by simpa using hz)]
 have e0 : txN [] = [48] := by unfold txN zDt; rw [txTs, if_pos rfl]
 have h48 : ∀ z : List Term, z ≠ [] → (∀ t ∈ z, gT V t) → ∃ c r, txN z = c :: r ∧ c ≠ 48 := fun z hz hg => by
  rw [en z hz]
  cases z with
  | nil => exact absurd rfl hz
  | cons t r =>
   obtain ⟨c, s, e, hc⟩ := zOZ (hg t (by simp))
   cases r with
   | nil => exact ⟨c, s, by simp only [List.map, zdY]; exact e, hc⟩
   | cons t' r => exact ⟨c, _, by simp only [List.map, zdY]; rw [e]; rfl, hc⟩
 by_cases a0 : a = []
 ·by_cases b0 : b = []
  ·rw [a0, b0] at h
   exact ⟨by rw [a0, b0], List.append_cancel_left h⟩
  ·obtain ⟨c, r, e, hc⟩ := h48 b b0 hb
   rw [a0, e0, e] at h
   simp only [List.cons_append, List.cons.injEq] at h
   exact absurd h.1.symm hc
 ·by_cases b0 : b = []
  ·obtain ⟨c, r, e, hc⟩ := h48 a a0 ha
   rw [b0, e0, e] at h
   simp only [List.cons_append, List.cons.injEq] at h
   exact absurd h.1 hc
  ·rw [en a a0, en b b0] at h
   exact zBJ txT SN 32 [43, 32] (gT V) (by decide) (fun x y px py u v hu hv e => zQ6 hA px py hu hv e) a b a0 b0 ha hb u v hu hv h
theorem zPA : ∀ m, RdN (zbP m) ∧ RdA (zbP m) := by
 intro m
 induction m with
 | zero =>
  have : RdN (zbP 0) := fun a b ha => by cases ha
  exact ⟨this, zNV this⟩
 | succ m ih =>
  have : RdN (zbP (m + 1)) := fun a b ha hb wa wb u v hu hv h => by
   have key : ∀ z, zbP (m + 1) z = true → zhZ z → ∀ t ∈ z, gT (zbP m) t := fun z hz wz t ht => by
    obtain ⟨⟨c1, c2⟩, hok⟩ := zqH hz ht
    have hwt := zpE (zvD (ztU wz t ht)).2.1
    exact ⟨⟨c1, by omega⟩, fun f hf => ⟨(zni hok hf).2, (zqJ (hwt f hf)).1, zj5 (zqJ (hwt f hf)).2⟩⟩
   exact zQ2 ih.2 (key a ha wa) (key b hb wb) hu hv h
  exact ⟨this, zNV this⟩
theorem zPX {m : Nat} {l l' : List Factor} (h1 : ∀ f ∈ l, gF (zbP m) f) (h2 : ∀ f ∈ l', gF (zbP m) f) (h : txL l = txL l') : l = l' := by
 have e0 : txL [] = [] := by unfold txL; rw [txFs]; rfl
 by_cases l0 : l = []
 ·by_cases l0' : l' = []
  ·rw [l0, l0']
  ·obtain ⟨c, r, e, _⟩ := zwQ l0' h2
   rw [l0, e0, e] at h; cases h
 ·by_cases l0' : l' = []
  ·obtain ⟨c, r, e, _⟩ := zwQ l0 h1
   rw [l0', e0, e] at h; cases h
  ·exact (zIH (zPA m).2 l0 l0' h1 h2 (u := []) (v := []) (fun c hc => by cases hc) (fun c hc => by cases hc) (by rw [h])).1
def znU (a b : Int) : Int := if 1152921504606846976 < a + b then 1152921504606846976 else a + b
def cT (x y : Term) : Int := cmpL (zbp x.Factors) (zbp y.Factors)
theorem zCw {x y : Term} (h : cT x y = 0) : x.Factors = y.Factors := zyF _ _ (zzI _ _ h)
theorem zrR {x y : Term} (h : x.Factors = y.Factors) : cT x y = 0 := by unfold cT; rw [h]; exact zFF _
def putA (t : Term) : List Term → List Term
 | [] => [t]
 | x :: r => if cT x t < 0 then x :: putA t r else if cT x t = 0 then ⟨znU x.Coeff t.Coeff, t.Factors⟩ :: r else t :: x :: r
def updA (t : Term) : List Term → List Term
 | [] => [t]
 | x :: r => if x.Factors = t.Factors then ⟨znU x.Coeff t.Coeff, x.Factors⟩ :: r else x :: updA t r
abbrev Srs (l : List Term) : Prop := l.Pairwise fun x y => cT x y < 0
abbrev Dst (l : List Term) : Prop := l.Pairwise fun x y => x.Factors ≠ y.Factors
theorem Srs.dst {l : List Term} (h : Srs l) : Dst l := h.imp fun {x y} hxy e => by rw [zrR e] at hxy; omega
def SM (l : List Term) (t y : Term) : Prop := (y ∈ l ∧ y.Factors ≠ t.Factors) ∨ (y.Factors = t.Factors ∧ ((∃ x ∈ l, x.Factors = t.Factors ∧ y.Coeff = znU x.Coeff t.Coeff) ∨ ((∀ x ∈ l, x.Factors ≠ t.Factors) ∧ y.Coeff = t.Coeff)))
theorem zIF {x y : Term} (h1 : x.Coeff = y.Coeff) (h2 : x.Factors = y.Factors) : x = y := by cases x; cases y; simp_all
theorem zAl {x y z : Term} (h1 : cT x y < 0) (h2 : cT y z < 0) : cT x z < 0 := zJP h1 h2
theorem ztT (x y : Term) : cT y x = - cT x y := zxr _ _
theorem zHY {x t y : Term} {r : List Term} (hx : x.Factors ≠ t.Factors) (hr : ∀ z ∈ r, x.Factors ≠ z.Factors) : SM (x :: r) t y ↔ y = x ∨ SM r t y := by
 unfold SM
 constructor
 ·rintro (⟨h1, h2⟩ | ⟨h1, ⟨z, hz, h2, h3⟩ | ⟨h2, h3⟩⟩)
  ·rcases List.mem_cons.1 h1 with rfl | h1
   ·exact .inl rfl
   ·exact .inr (.inl ⟨h1, h2⟩)
  ·rcases List.mem_cons.1 hz with rfl | hz
   ·exact absurd h2 hx
   ·exact .inr (.inr ⟨h1, .inl ⟨z, hz, h2, h3⟩⟩)
  ·exact .inr (.inr ⟨h1, .inr ⟨fun z hz => h2 z (by simp [hz]), h3⟩⟩)
 ·rintro (rfl | ⟨h1, h2⟩ | ⟨h1, ⟨z, hz, h2, h3⟩ | ⟨h2, h3⟩⟩)
  ·exact .inl ⟨by simp, hx⟩
  ·exact .inl ⟨by simp [h1], h2⟩
  ·exact .inr ⟨h1, .inl ⟨z, by simp [hz], h2, h3⟩⟩
  ·exact .inr ⟨h1, .inr ⟨fun z hz => by
    rcases List.mem_cons.1 hz with rfl | hz
    ·exact hx
    ·exact h2 z hz, h3⟩⟩
theorem zI4 {t y : Term} {l : List Term} (h : ∀ z ∈ l, z.Factors ≠ t.Factors) : SM l t y ↔ y = t ∨ y ∈ l := by
 unfold SM
 constructor
 ·rintro (⟨h1, h2⟩ | ⟨h1, ⟨z, hz, h2, h3⟩ | ⟨h2, h3⟩⟩)
  ·exact .inr h1
  ·exact absurd h2 (h z hz)
  ·exact .inl (zIF h3 h1)
 ·rintro (rfl | h1)
  ·exact .inr ⟨rfl, .inr ⟨h, rfl⟩⟩
  ·exact .inl ⟨h1, h y h1⟩
theorem zOH {x t y : Term} {r : List Term} (hx : x.Factors = t.Factors) (hr : ∀ z ∈ r, z.Factors ≠ t.Factors) : SM (x :: r) t y ↔ y = ⟨znU x.Coeff t.Coeff, t.Factors⟩ ∨ y ∈ r := by
 unfold SM
 constructor
 ·rintro (⟨h1, h2⟩ | ⟨h1, ⟨z, hz, h2, h3⟩ | ⟨h2, h3⟩⟩)
  ·rcases List.mem_cons.1 h1 with rfl | h1
   ·exact absurd hx h2
   ·exact .inr h1
  ·rcases List.mem_cons.1 hz with rfl | hz
   ·exact .inl (zIF h3 h1)
   ·exact absurd h2 (hr z hz)
  ·exact absurd hx (h2 x (by simp))
 ·rintro (rfl | h1)
  ·exact .inr ⟨rfl, .inl ⟨x, by simp, hx, rfl⟩⟩
  ·exact .inl ⟨by simp [h1], hr y h1⟩
theorem zCY {t y : Term} : ∀ {l : List Term}, Srs l → (y ∈ putA t l ↔ SM l t y)
 | [], _ => by rw [zI4 (by simp)]; simp [putA]
 | x :: r, h => by
  have hc := List.pairwise_cons.1 h
  have hd := List.pairwise_cons.1 h.dst
  unfold putA
  by_cases h1 : cT x t < 0
  ·rw [if_pos h1, List.mem_cons, zHY (fun e => by rw [zrR e] at h1; omega) hd.1, zCY hc.2]
  ·rw [if_neg h1]
   by_cases h2 : cT x t = 0
   ·rw [if_pos h2, List.mem_cons, zOH (zCw h2) fun z hz e => by
     have := hc.1 z hz; rw [zrR ((zCw h2).trans e.symm)] at this; omega]
   ·rw [if_neg h2, zI4 fun z hz e => by
     have a := ztT x t
     rcases List.mem_cons.1 hz with rfl | hz
     ·exact h2 (zrR e)
     ·have b := zAl (show cT t x < 0 by omega) (hc.1 z hz)
      rw [zrR e.symm] at b; omega]
    rw [List.mem_cons]
theorem zIW {t y : Term} : ∀ {l : List Term}, Dst l → (y ∈ updA t l ↔ SM l t y)
 | [], _ => by rw [zI4 (by simp)]; simp [updA]
 | x :: r, h => by
  have hd := List.pairwise_cons.1 h
  unfold updA
  by_cases h2 : x.Factors = t.Factors
  ·rw [if_pos h2, List.mem_cons, zOH h2 fun z hz e => hd.1 z hz (h2.trans e.symm), h2]
  ·rw [if_neg h2, List.mem_cons, zHY h2 hd.1, zIW hd.2]
theorem zuw {t : Term} : ∀ {l : List Term}, Srs l → Srs (putA t l)
 | [], _ => by simp [putA]
 | x :: r, h => by
  have hc := List.pairwise_cons.1 h
  unfold putA
  by_cases h1 : cT x t < 0
  ·rw [if_pos h1]
   refine List.pairwise_cons.2 ⟨fun z hz => ?_, zuw hc.2⟩
   rcases (zCY hc.2).1 hz with ⟨h2, _⟩ | ⟨h2, _⟩
   ·exact hc.1 z h2
   ·have : cT x z = cT x t := by unfold cT; rw [h2]
    rw [this]; exact h1
  ·rw [if_neg h1]
   by_cases h2 : cT x t = 0
   ·rw [if_pos h2]
    refine List.pairwise_cons.2 ⟨fun z hz => ?_, hc.2⟩
    have := hc.1 z hz
    unfold cT at this ⊢
    rw [← zCw h2]; exact this
   ·rw [if_neg h2]
    have a := ztT x t
    refine List.pairwise_cons.2 ⟨fun z hz => ?_, h⟩
    rcases List.mem_cons.1 hz with rfl | hz
    ·omega
    ·exact zAl (show cT t x < 0 by omega) (hc.1 z hz)
theorem zIQ {t : Term} : ∀ {l : List Term}, Dst l → Dst (updA t l)
 | [], _ => by simp [updA]
 | x :: r, h => by
  have hc := List.pairwise_cons.1 h
  unfold updA
  by_cases h2 : x.Factors = t.Factors
  ·rw [if_pos h2]
   exact List.pairwise_cons.2 ⟨fun z hz => hc.1 z hz, hc.2⟩
  ·rw [if_neg h2]
   refine List.pairwise_cons.2 ⟨fun z hz => ?_, zIQ hc.2⟩
   rcases (zIW hc.2).1 hz with ⟨h3, _⟩ | ⟨h3, _⟩
   ·exact hc.1 z h3
   ·rw [h3]; exact h2
theorem Dst.nodup {l : List Term} (h : Dst l) : l.Nodup := h.imp fun {x y} hxy e => hxy (by rw [e])
theorem zQi {l l' : List Term} (h : l.Perm l') (t y : Term) : SM l t y ↔ SM l' t y := by
 unfold SM
 simp only [h.mem_iff]
theorem zOg {l l' : List Term} (t : Term) (h : l.Perm l') (hs : Srs l) (hd : Dst l') : (putA t l).Perm (updA t l') :=
 (List.perm_ext_iff_of_nodup (zuw hs).dst.nodup (zIQ hd).nodup).2 fun y => by rw [zCY hs, zIW hd, zQi h]
def sumA (a b : List Term) : List Term := b.foldl (fun a t => putA t a) a
def zBP (ts : List Term) : List Term := ts.foldl (fun a t => updA t a) []
theorem zzL : ∀ (b a : List Term), Srs a → Srs (sumA a b)
 | [], _, h => h
 | t :: r, a, h => zzL r (putA t a) (zuw h)
theorem zJJ : ∀ (ts l l' : List Term), l.Perm l' → Srs l → Dst l' → (sumA l ts).Perm (ts.foldl (fun a t => updA t a) l') ∧ Dst (ts.foldl (fun a t => updA t a) l')
 | [], l, l', h, _, hd => ⟨h, hd⟩
 | t :: r, l, l', h, hs, hd => zJJ r (putA t l) (updA t l') (zOg t h hs hd) (zuw hs) (zIQ hd)
theorem zKt {t : Term} : ∀ {l : List Term}, (∀ x ∈ l, cT x t < 0) → putA t l = l ++ [t]
 | [], _ => rfl
 | x :: r, h => by
  unfold putA
  rw [if_pos (h x (by simp)), zKt fun y hy => h y (by simp [hy])]; rfl
theorem zLX : ∀ (r l : List Term), Srs (l ++ r) → sumA l r = l ++ r
 | [], l, _ => by simp [sumA]
 | t :: r, l, h => by
  have e : sumA l (t :: r) = sumA (putA t l) r := rfl
  have hp := List.pairwise_append.1 h
  rw [e, zKt fun x hx => hp.2.2 x hx t (by simp), zLX r (l ++ [t]) (by simpa using h)]
  simp
theorem sum_nil {a : List Term} (h : Srs a) : sumA [] a = a := zLX a [] h
theorem zQu (a b : List Term) (h : Srs a) : sumA [] (a ++ b) = sumA a b := by
 show (a ++ b).foldl (fun a t => putA t a) [] = _
 rw [List.foldl_append]
 show sumA (sumA [] a) b = _
 rw [sum_nil h]
theorem zCU {y : Term} : ∀ (b a : List Term), Srs a → y ∈ sumA a b → ∃ x, (x ∈ a ∨ x ∈ b) ∧ y.Factors = x.Factors
 | [], a, _, h => ⟨y, .inl h, rfl⟩
 | t :: r, a, hs, h => by
  obtain ⟨x, hx, e⟩ := zCU r (putA t a) (zuw hs) h
  rcases hx with hx | hx
  ·rcases (zCY hs).1 hx with ⟨h1, _⟩ | ⟨h1, _⟩
   ·exact ⟨x, .inl h1, e⟩
   ·exact ⟨t, .inr (by simp), e.trans h1⟩
  ·exact ⟨x, .inr (by simp [hx]), e⟩
theorem zJp {a b : Int} (ha : 1 ≤ a) (hb : 1 ≤ b) : 1 ≤ znU a b ∧ znU a b ≤ 1152921504606846976 := by
 unfold znU
 split
 ·omega
 ·omega
def cOK (t : Term) : Prop := 1 ≤ t.Coeff ∧ t.Coeff ≤ 1152921504606846976
theorem zKc {t : Term} (ht : cOK t) : ∀ {l : List Term}, (∀ x ∈ l, cOK x) → ∀ x ∈ putA t l, cOK x
 | [], _, x, hx => by simp only [putA, List.mem_singleton] at hx; subst hx; exact ht
 | y :: r, h, x, hx => by
  unfold putA at hx
  split at hx
  ·rcases List.mem_cons.1 hx with rfl | hx
   ·exact h _ (by simp)
   ·exact zKc ht (fun z hz => h z (by simp [hz])) x hx
  ·split at hx
   ·rcases List.mem_cons.1 hx with rfl | hx
    ·exact zJp (h y (by simp)).1 ht.1
    ·exact h x (by simp [hx])
   ·rcases List.mem_cons.1 hx with rfl | hx
    ·exact ht
    ·exact h x hx
theorem zJ1 : ∀ (b : List Term) {a : List Term}, (∀ x ∈ a, cOK x) → (∀ x ∈ b, cOK x) → ∀ x ∈ sumA a b, cOK x
 | [], a, ha, _ => ha
 | t :: r, a, ha, hb => zJ1 r (zKc (hb t (by simp)) ha) fun x hx => hb x (by simp [hx])
theorem zFZ {t : Term} : ∀ (l : List Term), (putA t l).length ≤ l.length + 1
 | [] => by simp [putA]
 | x :: r => by
  have := zFZ (t := t) r
  unfold putA
  split
  ·simp only [List.length_cons]; omega
  ·split <;> simp
theorem zzK : ∀ (b a : List Term), (sumA a b).length ≤ a.length + b.length
 | [], a => by simp [sumA]
 | t :: r, a => by
  have h1 := zzK r (putA t a)
  have h2 := zFZ (t := t) a
  show (sumA (putA t a) r).length ≤ _
  simp only [List.length_cons]; omega
def cF (x y : Factor) : Int := cmpT (zdx x.Atom) (zdx y.Atom)
theorem zIU {x y : Factor} (h : cF x y = 0) : x.Atom = y.Atom := zHS _ _ (zwG _ _ h)
theorem zIY (x y : Factor) : cF y x = - cF x y := zuz _ _
theorem zJR {a b c : TT} (h1 : cmpT a b < 0) (h2 : cmpT b c < 0) : cmpT a c < 0 := by
 have h := zH6 a b c (by omega) (by omega)
 by_cases e : cmpT a c = 0
 ·have e' := zwG a c e
  subst e'
  have := zuz a b
  omega
 ·omega
theorem zqS {x y z : Factor} (h1 : cF x y < 0) (h2 : cF y z < 0) : cF x z < 0 := zJR h1 h2
abbrev Srf (l : List Factor) : Prop := l.Pairwise fun x y => cF x y < 0
def facA (f : Factor) : List Factor → List Factor
 | [] => [f]
 | x :: r => if cF x f < 0 then x :: facA f r else if cF x f = 0 then (if f.Atom.Kind < 3 then ⟨f.Atom, x.Exp + f.Exp⟩ else f) :: r else f :: x :: r
def zbf : List Factor → List Factor → List Factor
 | [], b => b
 | x :: a, [] => x :: a
 | x :: a, y :: b => if cF x y < 0 then x :: zbf a (y :: b) else if 0 < cF x y then y :: zbf (x :: a) b else (if x.Atom.Kind = 3 ∨ x.Atom.Kind = 4 then x else ⟨x.Atom, x.Exp + y.Exp⟩) :: zbf a b
termination_by a b => a.length + b.length
theorem zxN (a : List Factor) : zbf a [] = a := by cases a <;> rw [zbf]
theorem zAW {m : Factor} {L b : List Factor} (h : ∀ z ∈ b, cF m z < 0) : zbf (m :: L) b = m :: zbf L b := by
 cases b with
 | nil => rw [zxN, zxN]
 | cons z b => rw [zbf, if_pos (h z (by simp))]
def eOK (f : Factor) : Prop := (0 ≤ f.Atom.Kind ∧ f.Atom.Kind ≤ 4) ∧ (f.Atom.Kind = 3 ∨ f.Atom.Kind = 4 → f.Exp = 1)
theorem zLv {y : Factor} {b : List Factor} (hb : ∀ z ∈ b, cF y z < 0) (hy : eOK y) : ∀ {a : List Factor}, (∀ x ∈ a, eOK x) → zbf (facA y a) b = zbf a (y :: b)
 | [], _ => by
  rw [facA, zAW hb, zbf, zbf]
 | x :: a, ha => by
  unfold facA
  by_cases h1 : cF x y < 0
  ·rw [if_pos h1, zAW fun z hz => zqS h1 (hb z hz), zLv hb hy fun z hz => ha z (by simp [hz]), zAW (m := x) (b := y :: b) fun z hz => by
    rcases List.mem_cons.1 hz with rfl | hz
    ·exact h1
    ·exact zqS h1 (hb z hz)]
  ·rw [if_neg h1]
   by_cases h2 : cF x y = 0
   ·have ea := zIU h2
    rw [if_pos h2, zAW fun z hz => by
     have e : (if y.Atom.Kind < 3 then (⟨y.Atom, x.Exp + y.Exp⟩ : Factor) else y).Atom = y.Atom := by split <;> rfl
     have := hb z hz
     unfold cF at this ⊢; rw [e]; exact this]
    rw [zbf, if_neg h1, if_neg (show ¬ 0 < cF x y by omega)]
    congr 1
    have hx := ha x (by simp)
    obtain ⟨xa, xe⟩ := x
    obtain ⟨ya, ye⟩ := y
    simp only at ea
    subst ea
    obtain ⟨⟨k0, k4⟩, h3⟩ := hx
    obtain ⟨_, h3'⟩ := hy
    simp only at k0 k4 h3 h3' ⊢
    by_cases hk : xa.Kind < 3
    ·rw [if_pos hk, if_neg (by omega)]
    ·have hk' : xa.Kind = 3 ∨ xa.Kind = 4 := by omega
     rw [if_neg hk, if_pos hk', h3 hk', h3' hk']
   ·rw [if_neg h2, zAW hb]
    rw [zbf, if_neg h1, if_pos (by omega)]
theorem zDp : ∀ (b a : List Factor), Srf b → (∀ x ∈ a, eOK x) → (∀ x ∈ b, eOK x) → b.foldl (fun l f => facA f l) a = zbf a b
 | [], a, _, _, _ => by rw [zxN]; rfl
 | y :: b, a, hs, ha, hb => by
  have hc := List.pairwise_cons.1 hs
  have hy := hb y (by simp)
  rw [List.foldl_cons, zDp b (facA y a) hc.2 (fun x hx => ?_) fun x hx => hb x (by simp [hx]), zLv hc.1 hy ha]
  -- kinds and exponents are kept
  clear hs hc hb
  induction a with
  | nil => simp only [facA, List.mem_singleton] at hx; subst hx; exact hy
  | cons z r ih =>
   unfold facA at hx
   split at hx
   ·rcases List.mem_cons.1 hx with rfl | hx
    ·exact ha _ (by simp)
    ·exact ih (fun w hw => ha w (by simp [hw])) hx
   ·split at hx
    ·rcases List.mem_cons.1 hx with rfl | hx
     ·split
      ·rename_i hk; exact ⟨hy.1, fun h => by simp only at h; omega⟩
      ·exact hy
     ·exact ha x (by simp [hx])
    ·rcases List.mem_cons.1 hx with rfl | hx
     ·exact hy
     ·exact ha x hx
theorem zo8 {x : Factor} : ∀ {a b : List Factor}, x ∈ zbf a b → ∃ y, (y ∈ a ∨ y ∈ b) ∧ x.Atom = y.Atom
 | [], b, h => ⟨x, .inr (by rwa [zbf] at h), rfl⟩
 | y :: a, [], h => ⟨x, .inl (by rwa [zbf] at h), rfl⟩
 | y :: a, z :: b, h => by
  rw [zbf] at h
  split at h
  ·rcases List.mem_cons.1 h with rfl | h
   ·exact ⟨x, .inl (by simp), rfl⟩
   ·obtain ⟨w, hw, e⟩ := zo8 h
    rcases hw with hw | hw
    ·exact ⟨w, .inl (by simp [hw]), e⟩
    ·exact ⟨w, .inr hw, e⟩
  ·split at h
   ·rcases List.mem_cons.1 h with rfl | h
    ·exact ⟨x, .inr (by simp), rfl⟩
    ·obtain ⟨w, hw, e⟩ := zo8 h
     rcases hw with hw | hw
     ·exact ⟨w, .inl hw, e⟩
     ·exact ⟨w, .inr (by simp [hw]), e⟩
   ·rcases List.mem_cons.1 h with rfl | h
    ·exact ⟨y, .inl (by simp), by split <;> rfl⟩
    ·obtain ⟨w, hw, e⟩ := zo8 h
     rcases hw with hw | hw
     ·exact ⟨w, .inl (by simp [hw]), e⟩
     ·exact ⟨w, .inr (by simp [hw]), e⟩
termination_by a b => a.length + b.length
theorem zAw : ∀ (a b : List Factor), (zbf a b).length ≤ a.length + b.length
 | [], b => by rw [zbf]; simp
 | y :: a, [] => by rw [zbf]; simp
 | y :: a, z :: b => by
  rw [zbf]
  split
  ·have := zAw a (z :: b); simp only [List.length_cons] at this ⊢; omega
  ·split
   ·have := zAw (y :: a) b; simp only [List.length_cons] at this ⊢; omega
   ·have := zAw a b; simp only [List.length_cons] at this ⊢; omega
termination_by a b => a.length + b.length
theorem zAH {x : Factor} {B : Int} : ∀ {a b : List Factor}, (∀ y ∈ a, 1 ≤ y.Exp ∧ y.Exp ≤ B) → (∀ y ∈ b, 1 ≤ y.Exp ∧ y.Exp ≤ B) → x ∈ zbf a b → 1 ≤ x.Exp ∧ x.Exp ≤ 2 * B
 | [], b, ha, hb, h => by rw [zbf] at h; have := hb x h; omega
 | y :: a, [], ha, hb, h => by rw [zbf] at h; have := ha x h; omega
 | y :: a, z :: b, ha, hb, h => by
  have hy := ha y (by simp)
  have hz := hb z (by simp)
  rw [zbf] at h
  split at h
  ·rcases List.mem_cons.1 h with rfl | h
   ·omega
   ·exact zAH (fun w hw => ha w (by simp [hw])) hb h
  ·split at h
   ·rcases List.mem_cons.1 h with rfl | h
    ·omega
    ·exact zAH ha (fun w hw => hb w (by simp [hw])) h
   ·rcases List.mem_cons.1 h with rfl | h
    ·split
     ·omega
     ·simp only; omega
    ·exact zAH (fun w hw => ha w (by simp [hw])) (fun w hw => hb w (by simp [hw])) h
termination_by a b => a.length + b.length
def zoi (a b : Int) : Int := if Int.tdiv 1152921504606846976 b < a then 1152921504606846976 else a * b
def ziS (x y : Term) : Term := ⟨zoi x.Coeff y.Coeff, zbf x.Factors y.Factors⟩
def zc6 (a b : List Term) : List Term := a.flatMap fun x => b.map (ziS x)
def zfS (a b : List Term) : List Term := sumA [] (zc6 a b)
theorem zzu {a b : Int} (ha : 1 ≤ a ∧ a ≤ 1152921504606846976) (hb : 1 ≤ b ∧ b ≤ 1152921504606846976) : (1 ≤ zoi a b ∧ zoi a b ≤ 1152921504606846976) ∧ (¬ Int.tdiv 1152921504606846976 b < a → a * b ≤ 1152921504606846976) := by
 have h1 : ¬ Int.tdiv 1152921504606846976 b < a → a * b ≤ 1152921504606846976 := fun h => by
  rw [Int.tdiv_eq_ediv_of_nonneg (by omega)] at h
  have h2 : a ≤ 1152921504606846976 / b := by omega
  exact (Int.le_ediv_iff_mul_le (by omega)).1 h2
 refine ⟨?_, h1⟩
 unfold zoi
 split
 ·omega
 ·rename_i h
  refine ⟨?_, h1 h⟩
  have := Int.mul_le_mul ha.1 hb.1 (by omega) (by omega)
  omega
theorem zBL {t : Term} {a b : List Term} (h : t ∈ zc6 a b) : ∃ x ∈ a, ∃ y ∈ b, t = ziS x y := by
 obtain ⟨x, hx, ht⟩ := List.mem_flatMap.1 h
 obtain ⟨y, hy, rfl⟩ := List.mem_map.1 ht
 exact ⟨x, hx, y, hy, rfl⟩
theorem zFu (a b : List Term) : (zc6 a b).length = a.length * b.length := by
 unfold zc6
 induction a with
 | nil => simp
 | cons x r ih => rw [List.flatMap_cons, List.length_append, ih, List.length_map, List.length_cons, Nat.add_mul]; omega
section
variable (g : List Term → Bool × List Term)
theorem zRz (l : List (List Term)) (hl : l.length ≤ 1000000) (hg : ∀ a ∈ l, g a = (true, a)) (n : Nat) (hn : l.length < n) (x0 x1 x2 x3 : Int) (x4 : List Weighted) (x5 x6 x7 : Int) (x8 : ByteArray) (t0 t1 t2 t3 t4 t5 t6 : Int) (t7 : ByteArray) :
  zpp g n l.length 0 x0 x1 x2 x3 x4 x5 x6 x7 x8 t0 t1 t2 t3 t4 t5 t6 t7 l = (true, (x0, x1, x2, x3, x4, x5, x6, x7, x8, t0, t1, t2, t3, t4, t5, t6, t7, l)) := by
 have := zdR (W := zh7 g) (z := default) l.length (fun i => ((), (), (l.length : Int), (i : Int), ())) (fun _ => ((x0, x1, x2, (), x3, x4, x5, x6, x7, x8, ()), (t0, t1, t2, (), t3, (), t4, t5, t6, t7, ()), l, ())) (fun _ => true) default (x0, x1, x2, x3, x4, x5, x6, x7, x8, t0, t1, t2, t3, t4, t5, t6, t7, l)
  (fun i hi H K D => by
   show (ze6 g l.length i x0 x1 x2 x3 x4 x5 x6 x7 x8 t0 t1 t2 t3 t4 t5 t6 t7 l).ev H K D = _
   unfold ze6
   simp only [Wy.ev_i, Wy.ev_k, Wy.ev_h, Wy.ev_bn, Wy.ev_d, tT, hi, hg _ (zC hi)]
   rw [zY (by omega), zG0 hi])
  (fun H K D => by
   show (ze6 g l.length l.length x0 x1 x2 x3 x4 x5 x6 x7 x8 t0 t1 t2 t3 t4 t5 t6 t7 l).ev H K D = _
   unfold ze6
   simp only [Wy.ev_i, Wy.ev_k, tT, Nat.lt_irrefl]) n hn
 rw [show allN (fun _ => true) l.length 0 = true from zea.2 fun _ _ _ => rfl] at this
 exact this
theorem zRP (l : List Weighted) (hl : l.length ≤ 1000000) (hg : ∀ a ∈ l, g a.Ann = (true, a.Ann)) (n : Nat) (hn : l.length < n) (x0 x1 x2 x3 x4 x5 x6 : Int) (x7 : ByteArray) (t0 t1 t2 t3 t4 t5 t6 : Int) (t7 : ByteArray) (b2 : List (List Term)) :
  zpl g n l.length 0 x0 x1 x2 x3 x4 x5 x6 x7 t0 t1 t2 t3 t4 t5 t6 t7 b2 l = (true, (x0, x1, x2, x3, x4, x5, x6, x7, t0, t1, t2, t3, t4, t5, t6, t7, b2, l)) := by
 have := zdR (W := zh8 g) (z := default) l.length (fun i => ((), (), (l.length : Int), (i : Int), ())) (fun _ => ((x0, x1, x2, (), x3, (), x4, x5, x6, x7, ()), (t0, t1, t2, (), t3, (), t4, t5, t6, t7, ()), b2, l, ())) (fun _ => true) default (x0, x1, x2, x3, x4, x5, x6, x7, t0, t1, t2, t3, t4, t5, t6, t7, b2, l)
  (fun i hi H K D => by
   show (ze2 g l.length i x0 x1 x2 x3 x4 x5 x6 x7 t0 t1 t2 t3 t4 t5 t6 t7 b2 l).ev H K D = _
   unfold ze2
   simp only [Wy.ev_i, Wy.ev_k, Wy.ev_h, Wy.ev_bn, Wy.ev_d, tT, hi, hg _ (zC hi)]
   have : l.set i (⟨(l.getD i default).Value, (l.getD i default).Ann⟩ : Weighted) = l := zG0 hi
   rw [zY (by omega), this])
  (fun H K D => by
   show (ze2 g l.length l.length x0 x1 x2 x3 x4 x5 x6 x7 t0 t1 t2 t3 t4 t5 t6 t7 b2 l).ev H K D = _
   unfold ze2
   simp only [Wy.ev_i, Wy.ev_k, tT, Nat.lt_irrefl]) n hn
 rw [show allN (fun _ => true) l.length 0 = true from zea.2 fun _ _ _ => rfl] at this
 exact this
theorem zHT (x : Atom) (h1 : x.Args.length ≤ 1000000) (h2 : x.Items.length ≤ 1000000) (hg : ∀ a ∈ x.Args, g a = (true, a)) (hgi : ∀ w ∈ x.Items, g w.Ann = (true, w.Ann)) : zhe g x = (true, x) := by
 have hreach : zP = 70368744177664 := rfl
 unfold zhe zlz zcX zdG
 have e1 : ∀ k : Nat, k ≤ 1000 → decide (x.Args.length * k ≤ zP) = true := fun k hk => by
  have := Nat.mul_le_mul h1 hk
  simp only [decide_eq_true_eq]; omega
 have e2 : ∀ k : Nat, k ≤ 1000 → decide (x.Items.length * k ≤ zP) = true := fun k hk => by
  have := Nat.mul_le_mul h2 hk
  simp only [decide_eq_true_eq]; omega
 simp only [Wy.fin_bn, Wy.fin_k, e1 _ (by omega : 24 ≤ 1000), e2 _ (by omega : 56 ≤ 1000), Int.ofNat_eq_natCast, cond_true]
 rw [zRz g _ h1 hg _ (by omega)]
 simp only [cond_true, e2 _ (by omega : 56 ≤ 1000)]
 rw [zRP g _ h2 hgi _ (by omega)]
 simp only [cond_true]
 cases x; rfl
theorem zLH (gx : Atom → Bool × Atom) (a : List Term) (hl : a.length ≤ 1000000) (hg : ∀ t ∈ a, t.Factors.length ≤ 1000000 ∧ ∀ f ∈ t.Factors, gx f.Atom = (true, f.Atom)) : zjR gx a = (true, a) := by
 unfold zjR zos
 have := cp_3 gx a hl hg (a.length + (Int.ofNat a.length).toNat + Int.toNat (0 : Int) + (0 : Nat) + (1 : Nat)) (by omega)
 rw [show Int.ofNat a.length = (a.length : Int) from rfl] at *
 rw [Wy.fin_bn, this]; rfl
end
theorem zHs : ∀ n,
  (∀ d a, zA d a → 2 * d ≤ n → zjU n a = (true, a)) ∧
  (∀ d x, zdL (zA d) x → 2 * d + 1 ≤ n → zjE n x = (true, x))
 | 0 => by
  refine ⟨fun d a h hd => ?_, fun d x h hd => by omega⟩
  have : d = 0 := by omega
  subst this; exact h.elim
 | n + 1 => by
  obtain ⟨h1, h2⟩ := zHs n
  refine ⟨fun d a h hd => ?_, fun d x h hd => ?_⟩
  ·cases d with
   | zero => exact h.elim
   | succ d =>
    rw [zCd]
    exact zLH _ a h.1 fun t ht => ⟨(h.2 t ht).1, fun f hf => h2 d _ ((h.2 t ht).2 f hf) (by omega)⟩
  ·rw [zyx]
   exact zHT _ x h.1.1 h.1.2.1 (fun a ha => h1 d a (h.2.1 a ha) (by omega)) fun w hw => h1 d _ (h.2.2 w hw).2 (by omega)
theorem zNY {d : Nat} {a : List Term} (h : zA d a) (hd : d ≤ 100) : zfq a = (true, a) := (zHs 1000).1 d a h (by omega)
def fitR (a : List Term) : List Term × Int := bif zhG a then (a, 0) else ([], 6)
theorem zH3 {d : Nat} {a : List Term} (h : zA d a) (hd : d ≤ 100) (hs : zK a ≤ 4611686018427387904) : zdy a = (true, fitR a) := by
 unfold zdy zo3 fitR
 simp only [Wy.fin_bn, Wy.fin_i, Wy.fin_k, zJK h hd hs, zNY h hd, cond_true]
 cases zhG a <;> rfl
theorem zOa {d : Nat} {a : List Term} (h : zA d a) (hd : d ≤ 100) (hs : zK a ≤ 4611686018427387904) : zBw a = (true, fitR a) := by
 unfold zBw zGO fitR
 simp only [Wy.fin_bn, Wy.fin_i, Wy.fin_k, zL7 h hd hs, cond_true]
 cases zhG a <;> rfl
section
variable {α β ρ τ : Type} [Inhabited τ]
theorem zIX (p : τ → Bool) : ∀ l : List τ, l.take (l.takeWhile p).length = l.takeWhile p
 | [] => rfl
 | x :: r => by
  rw [List.takeWhile_cons]
  cases p x with
  | true => simp [zIX p r]
  | false => simp
theorem zIZ (p : τ → Bool) : ∀ l : List τ, l.drop (l.takeWhile p).length = l.dropWhile p
 | [] => rfl
 | x :: r => by
  rw [List.takeWhile_cons, List.dropWhile_cons]
  cases p x with
  | true => simp [zIZ p r]
  | false => simp
theorem zI8 {W : α → β → Wy α β ρ} {z : ρ} (l : List τ) (p : τ → Bool) (ex : Nat → α) (ey : Nat → β) (res : Nat → ρ)
  (h : ∀ i, i < l.length → ∀ (H : α → β → Bool × ρ) K D, (W (ex i) (ey i)).ev H K D = bif p (l.getD i default) then H (ex (i + 1)) (ey (i + 1)) else K (res i))
  (he : ∀ (H : α → β → Bool × ρ) K D, (W (ex l.length) (ey l.length)).ev H K D = K (res l.length)) :
  ∀ n i, l.length < i + n → i ≤ l.length → zN W z n (ex i) (ey i) = (true, res (i + ((l.drop i).takeWhile p).length))
 | 0, i, h1, h2 => by omega
 | n + 1, i, h1, h2 => by
  show (W (ex i) (ey i)).ev (zN W z n) (fun r => (true, r)) (false, z) = _
  by_cases hi : i < l.length
  ·rw [h i hi, zbF hi, List.takeWhile_cons]
   cases hp : p (l.getD i default) with
   | false => simp
   | true =>
    rw [cond_true, zI8 l p ex ey res h he n (i + 1) (by omega) (by omega)]
    simp only [if_true, List.length_cons]
    congr 2; omega
  ·have : i = l.length := by omega
   subst this
   rw [he, zeQ hi]; rfl
theorem zIb {W : α → β → Wy α β ρ} {z : ρ} (l : List τ) (p : τ → Bool) (ex : Nat → α) (ey : Nat → β) (res : Nat → ρ)
  (h : ∀ i, i < l.length → ∀ (H : α → β → Bool × ρ) K D, (W (ex i) (ey i)).ev H K D = bif p (l.getD i default) then H (ex (i + 1)) (ey (i + 1)) else K (res i))
  (he : ∀ (H : α → β → Bool × ρ) K D, (W (ex l.length) (ey l.length)).ev H K D = K (res l.length)) (n : Nat) (hn : l.length < n) :
  zN W z n (ex 0) (ey 0) = (true, res (l.takeWhile p).length) := by
 have := zI8 (z := z) l p ex ey res h he n 0 (by omega) (by omega)
 simpa using this
end
theorem zLY {τ : Type} (l : List τ) (k : Nat) : List.take (k - Int.toNat 0) (List.drop (Int.toNat 0) l) = l.take k := by simp
theorem zwJ {τ : Type} (l : List τ) (k : Nat) : List.take ((Int.ofNat l.length).toNat - k) (List.drop k l) = l.drop k := by
 simp only [Int.ofNat_eq_natCast, Int.toNat_natCast]
 rw [List.take_of_length_le (by simp)]
def zFo (a : Int) (b : Int) : Wy0 (Int) := .k (if 1152921504606846976 < IntKind.i64.wrap (a + b) then 1152921504606846976 else IntKind.i64.wrap (a + b))
def zuS (a : Int) (b : Int) : Bool × Int := (zFo a b).fin default
abbrev zAq := List Term × Unit × Int × Unit
abbrev ttTref05Put1 := List Term × Int × Term
def zrp (a : List Term) (i : Int) (t : Term) : Wy zAq (Term × Unit) ttTref05Put1 := .i (decide (i < Int.ofNat a.length)) (.i (decide (0 ≤ i) && decide (i < Int.ofNat a.length)) (.bn (zlt (a.getD i.toNat default).Factors t.Factors) fun r0 => .i (decide (r0 < 0)) (.h (a, (), (IntKind.i64.wrap (i + 1)), ()) (t, ())) (.k (a, i, t))) .d) (.k (a, i, t))
def zFM (x : zAq) (y : Term × Unit) : Wy zAq (Term × Unit) ttTref05Put1 := zrp x.1 x.2.2.1 y.1
def zFL (n : Nat) (a : List Term) (i : Int) (t : Term) : Bool × ttTref05Put1 := zN (zFM) default n (a, (), i, ()) (t, ())
def zGL (a : List Term) (t : Term) : Wy0 (List Term) := .bn (zFL ((a.length + Int.toNat 0 + 1) + t.Factors.length) a 0 t) fun r3 => .i (decide ((0 : Int) ≤ (0 : Int)) && decide (0 ≤ r3.2.1) && decide (r3.2.1 ≤ Int.ofNat r3.1.length)) (.i (decide ((0 + (List.take (r3.2.1.toNat - Int.toNat 0) (List.drop (Int.toNat 0) r3.1)).length) * 32 ≤ zP)) (.i (decide (r3.2.1 < Int.ofNat r3.1.length)) (.i (decide (0 ≤ r3.2.1) && decide (r3.2.1 < Int.ofNat r3.1.length)) (.bn (zlt (r3.1.getD r3.2.1.toNat default).Factors r3.2.2.Factors) fun r2 => .i (r2 == 0) (.i (decide (0 ≤ r3.2.1) && decide (r3.2.1 < Int.ofNat r3.1.length)) (.i (decide ((([] ++ List.take (r3.2.1.toNat - Int.toNat 0) (List.drop (Int.toNat 0) r3.1)).length + [TermOf.mk (zuS (r3.1.getD r3.2.1.toNat default).Coeff r3.2.2.Coeff).2 r3.2.2.Factors].length) * 32 ≤ zP)) (.i (decide (0 ≤ IntKind.i64.wrap (r3.2.1 + 1)) && decide (IntKind.i64.wrap (r3.2.1 + 1) ≤ Int.ofNat r3.1.length) && decide (Int.ofNat r3.1.length ≤ Int.ofNat r3.1.length)) (.i (decide ((([] ++ List.take (r3.2.1.toNat - Int.toNat 0) (List.drop (Int.toNat 0) r3.1) ++ [TermOf.mk (zuS (r3.1.getD r3.2.1.toNat default).Coeff r3.2.2.Coeff).2 r3.2.2.Factors]).length + (List.take ((Int.ofNat r3.1.length).toNat - (IntKind.i64.wrap (r3.2.1 + 1)).toNat) (List.drop (IntKind.i64.wrap (r3.2.1 + 1)).toNat r3.1)).length) * 32 ≤ zP)) (.k ([] ++ List.take (r3.2.1.toNat - Int.toNat 0) (List.drop (Int.toNat 0) r3.1) ++ [TermOf.mk (zuS (r3.1.getD r3.2.1.toNat default).Coeff r3.2.2.Coeff).2 r3.2.2.Factors] ++ List.take ((Int.ofNat r3.1.length).toNat - (IntKind.i64.wrap (r3.2.1 + 1)).toNat) (List.drop (IntKind.i64.wrap (r3.2.1 + 1)).toNat r3.1))) .d) .d) .d) .d) (.i (decide ((([] ++ List.take (r3.2.1.toNat - Int.toNat 0) (List.drop (Int.toNat 0) r3.1)).length + [r3.2.2].length) * 32 ≤ zP)) (.i (decide (0 ≤ r3.2.1) && decide (r3.2.1 ≤ Int.ofNat r3.1.length) && decide (Int.ofNat r3.1.length ≤ Int.ofNat r3.1.length)) (.i (decide ((([] ++ List.take (r3.2.1.toNat - Int.toNat 0) (List.drop (Int.toNat 0) r3.1) ++ [r3.2.2]).length + (List.take ((Int.ofNat r3.1.length).toNat - r3.2.1.toNat) (List.drop r3.2.1.toNat r3.1)).length) * 32 ≤ zP)) (.k ([] ++ List.take (r3.2.1.toNat - Int.toNat 0) (List.drop (Int.toNat 0) r3.1) ++ [r3.2.2] ++ List.take ((Int.ofNat r3.1.length).toNat - r3.2.1.toNat) (List.drop r3.2.1.toNat r3.1))) .d) .d) .d)) .d) (.i (decide ((([] ++ List.take (r3.2.1.toNat - Int.toNat 0) (List.drop (Int.toNat 0) r3.1)).length + [r3.2.2].length) * 32 ≤ zP)) (.i (decide (0 ≤ r3.2.1) && decide (r3.2.1 ≤ Int.ofNat r3.1.length) && decide (Int.ofNat r3.1.length ≤ Int.ofNat r3.1.length)) (.i (decide ((([] ++ List.take (r3.2.1.toNat - Int.toNat 0) (List.drop (Int.toNat 0) r3.1) ++ [r3.2.2]).length + (List.take ((Int.ofNat r3.1.length).toNat - r3.2.1.toNat) (List.drop r3.2.1.toNat r3.1)).length) * 32 ≤ zP)) (.k ([] ++ List.take (r3.2.1.toNat - Int.toNat 0) (List.drop (Int.toNat 0) r3.1) ++ [r3.2.2] ++ List.take ((Int.ofNat r3.1.length).toNat - r3.2.1.toNat) (List.drop r3.2.1.toNat r3.1))) .d) .d) .d)) .d) .d
def zBY (a : List Term) (t : Term) : Bool × List Term := (zGL a t).fin default
abbrev zvu := List Factor × Unit × Int × Unit
abbrev ttTref05factor1 := List Factor × Int × Factor
def zm9 (l : List Factor) (i : Int) (f : Factor) : Wy zvu (Factor × Unit) ttTref05factor1 := .i (decide (i < Int.ofNat l.length)) (.i (decide (0 ≤ i) && decide (i < Int.ofNat l.length)) (.bn (zlh (Atom.mk (l.getD i.toNat default).Atom.Kind (l.getD i.toNat default).Atom.Row (l.getD i.toNat default).Atom.Args (l.getD i.toNat default).Atom.Func (l.getD i.toNat default).Atom.Items (l.getD i.toNat default).Atom.Op (l.getD i.toNat default).Atom.Bound) (Atom.mk f.Atom.Kind f.Atom.Row f.Atom.Args f.Atom.Func f.Atom.Items f.Atom.Op f.Atom.Bound)) fun r0 => .i (decide (r0 < 0)) (.h (l, (), (IntKind.i64.wrap (i + 1)), ()) (f, ())) (.k (l, i, f))) .d) (.k (l, i, f))
def zBy (x : zvu) (y : Factor × Unit) : Wy zvu (Factor × Unit) ttTref05factor1 := zm9 x.1 x.2.2.1 y.1
def zBQ (n : Nat) (l : List Factor) (i : Int) (f : Factor) : Bool × ttTref05factor1 := zN (zBy) default n (l, (), i, ()) (f, ())
def zCJ (l : List Factor) (f : Factor) : Wy0 (List Factor) := .bn (zBQ (l.length + Int.toNat 0 + f.Atom.Args.length + f.Atom.Items.length + 1) l 0 (FactorOf.mk (Atom.mk f.Atom.Kind f.Atom.Row f.Atom.Args f.Atom.Func f.Atom.Items f.Atom.Op f.Atom.Bound) f.Exp)) fun r3 => .i (decide ((0 : Int) ≤ (0 : Int)) && decide (0 ≤ r3.2.1) && decide (r3.2.1 ≤ Int.ofNat r3.1.length)) (.i (decide ((0 + (List.take (r3.2.1.toNat - Int.toNat 0) (List.drop (Int.toNat 0) r3.1)).length) * 128 ≤ zP)) (.i (decide (r3.2.1 < Int.ofNat r3.1.length)) (.i (decide (0 ≤ r3.2.1) && decide (r3.2.1 < Int.ofNat r3.1.length)) (.bn (zlh (Atom.mk (r3.1.getD r3.2.1.toNat default).Atom.Kind (r3.1.getD r3.2.1.toNat default).Atom.Row (r3.1.getD r3.2.1.toNat default).Atom.Args (r3.1.getD r3.2.1.toNat default).Atom.Func (r3.1.getD r3.2.1.toNat default).Atom.Items (r3.1.getD r3.2.1.toNat default).Atom.Op (r3.1.getD r3.2.1.toNat default).Atom.Bound) (Atom.mk r3.2.2.Atom.Kind r3.2.2.Atom.Row r3.2.2.Atom.Args r3.2.2.Atom.Func r3.2.2.Atom.Items r3.2.2.Atom.Op r3.2.2.Atom.Bound)) fun r2 => .i (r2 == 0) (.i (decide (r3.2.2.Atom.Kind < 3)) (.i (decide (0 ≤ r3.2.1) && decide (r3.2.1 < Int.ofNat r3.1.length)) (.i (decide ((([] ++ List.take (r3.2.1.toNat - Int.toNat 0) (List.drop (Int.toNat 0) r3.1)).length + [FactorOf.mk (Atom.mk r3.2.2.Atom.Kind r3.2.2.Atom.Row r3.2.2.Atom.Args r3.2.2.Atom.Func r3.2.2.Atom.Items r3.2.2.Atom.Op r3.2.2.Atom.Bound) (IntKind.i64.wrap ((r3.1.getD r3.2.1.toNat default).Exp + r3.2.2.Exp))].length) * 128 ≤ zP)) (.i (decide (0 ≤ IntKind.i64.wrap (r3.2.1 + 1)) && decide (IntKind.i64.wrap (r3.2.1 + 1) ≤ Int.ofNat r3.1.length) && decide (Int.ofNat r3.1.length ≤ Int.ofNat r3.1.length)) (.i (decide ((([] ++ List.take (r3.2.1.toNat - Int.toNat 0) (List.drop (Int.toNat 0) r3.1) ++ [FactorOf.mk (Atom.mk r3.2.2.Atom.Kind r3.2.2.Atom.Row r3.2.2.Atom.Args r3.2.2.Atom.Func r3.2.2.Atom.Items r3.2.2.Atom.Op r3.2.2.Atom.Bound) (IntKind.i64.wrap ((r3.1.getD r3.2.1.toNat default).Exp + r3.2.2.Exp))]).length + (List.take ((Int.ofNat r3.1.length).toNat - (IntKind.i64.wrap (r3.2.1 + 1)).toNat) (List.drop (IntKind.i64.wrap (r3.2.1 + 1)).toNat r3.1)).length) * 128 ≤ zP)) (.k ([] ++ List.take (r3.2.1.toNat - Int.toNat 0) (List.drop (Int.toNat 0) r3.1) ++ [FactorOf.mk (Atom.mk r3.2.2.Atom.Kind r3.2.2.Atom.Row r3.2.2.Atom.Args r3.2.2.Atom.Func r3.2.2.Atom.Items r3.2.2.Atom.Op r3.2.2.Atom.Bound) (IntKind.i64.wrap ((r3.1.getD r3.2.1.toNat default).Exp + r3.2.2.Exp))] ++ List.take ((Int.ofNat r3.1.length).toNat - (IntKind.i64.wrap (r3.2.1 + 1)).toNat) (List.drop (IntKind.i64.wrap (r3.2.1 + 1)).toNat r3.1))) .d) .d) .d) .d) (.i (decide ((([] ++ List.take (r3.2.1.toNat - Int.toNat 0) (List.drop (Int.toNat 0) r3.1)).length + [FactorOf.mk (Atom.mk r3.2.2.Atom.Kind r3.2.2.Atom.Row r3.2.2.Atom.Args r3.2.2.Atom.Func r3.2.2.Atom.Items r3.2.2.Atom.Op r3.2.2.Atom.Bound) r3.2.2.Exp].length) * 128 ≤ zP)) (.i (decide (0 ≤ IntKind.i64.wrap (r3.2.1 + 1)) && decide (IntKind.i64.wrap (r3.2.1 + 1) ≤ Int.ofNat r3.1.length) && decide (Int.ofNat r3.1.length ≤ Int.ofNat r3.1.length)) (.i (decide ((([] ++ List.take (r3.2.1.toNat - Int.toNat 0) (List.drop (Int.toNat 0) r3.1) ++ [FactorOf.mk (Atom.mk r3.2.2.Atom.Kind r3.2.2.Atom.Row r3.2.2.Atom.Args r3.2.2.Atom.Func r3.2.2.Atom.Items r3.2.2.Atom.Op r3.2.2.Atom.Bound) r3.2.2.Exp]).length + (List.take ((Int.ofNat r3.1.length).toNat - (IntKind.i64.wrap (r3.2.1 + 1)).toNat) (List.drop (IntKind.i64.wrap (r3.2.1 + 1)).toNat r3.1)).length) * 128 ≤ zP)) (.k ([] ++ List.take (r3.2.1.toNat - Int.toNat 0) (List.drop (Int.toNat 0) r3.1) ++ [FactorOf.mk (Atom.mk r3.2.2.Atom.Kind r3.2.2.Atom.Row r3.2.2.Atom.Args r3.2.2.Atom.Func r3.2.2.Atom.Items r3.2.2.Atom.Op r3.2.2.Atom.Bound) r3.2.2.Exp] ++ List.take ((Int.ofNat r3.1.length).toNat - (IntKind.i64.wrap (r3.2.1 + 1)).toNat) (List.drop (IntKind.i64.wrap (r3.2.1 + 1)).toNat r3.1))) .d) .d) .d)) (.i (decide ((([] ++ List.take (r3.2.1.toNat - Int.toNat 0) (List.drop (Int.toNat 0) r3.1)).length + [FactorOf.mk (Atom.mk r3.2.2.Atom.Kind r3.2.2.Atom.Row r3.2.2.Atom.Args r3.2.2.Atom.Func r3.2.2.Atom.Items r3.2.2.Atom.Op r3.2.2.Atom.Bound) r3.2.2.Exp].length) * 128 ≤ zP)) (.i (decide (0 ≤ r3.2.1) && decide (r3.2.1 ≤ Int.ofNat r3.1.length) && decide (Int.ofNat r3.1.length ≤ Int.ofNat r3.1.length)) (.i (decide ((([] ++ List.take (r3.2.1.toNat - Int.toNat 0) (List.drop (Int.toNat 0) r3.1) ++ [FactorOf.mk (Atom.mk r3.2.2.Atom.Kind r3.2.2.Atom.Row r3.2.2.Atom.Args r3.2.2.Atom.Func r3.2.2.Atom.Items r3.2.2.Atom.Op r3.2.2.Atom.Bound) r3.2.2.Exp]).length + (List.take ((Int.ofNat r3.1.length).toNat - r3.2.1.toNat) (List.drop r3.2.1.toNat r3.1)).length) * 128 ≤ zP)) (.k ([] ++ List.take (r3.2.1.toNat - Int.toNat 0) (List.drop (Int.toNat 0) r3.1) ++ [FactorOf.mk (Atom.mk r3.2.2.Atom.Kind r3.2.2.Atom.Row r3.2.2.Atom.Args r3.2.2.Atom.Func r3.2.2.Atom.Items r3.2.2.Atom.Op r3.2.2.Atom.Bound) r3.2.2.Exp] ++ List.take ((Int.ofNat r3.1.length).toNat - r3.2.1.toNat) (List.drop r3.2.1.toNat r3.1))) .d) .d) .d)) .d) (.i (decide ((([] ++ List.take (r3.2.1.toNat - Int.toNat 0) (List.drop (Int.toNat 0) r3.1)).length + [FactorOf.mk (Atom.mk r3.2.2.Atom.Kind r3.2.2.Atom.Row r3.2.2.Atom.Args r3.2.2.Atom.Func r3.2.2.Atom.Items r3.2.2.Atom.Op r3.2.2.Atom.Bound) r3.2.2.Exp].length) * 128 ≤ zP)) (.i (decide (0 ≤ r3.2.1) && decide (r3.2.1 ≤ Int.ofNat r3.1.length) && decide (Int.ofNat r3.1.length ≤ Int.ofNat r3.1.length)) (.i (decide ((([] ++ List.take (r3.2.1.toNat - Int.toNat 0) (List.drop (Int.toNat 0) r3.1) ++ [FactorOf.mk (Atom.mk r3.2.2.Atom.Kind r3.2.2.Atom.Row r3.2.2.Atom.Args r3.2.2.Atom.Func r3.2.2.Atom.Items r3.2.2.Atom.Op r3.2.2.Atom.Bound) r3.2.2.Exp]).length + (List.take ((Int.ofNat r3.1.length).toNat - r3.2.1.toNat) (List.drop r3.2.1.toNat r3.1)).length) * 128 ≤ zP)) (.k ([] ++ List.take (r3.2.1.toNat - Int.toNat 0) (List.drop (Int.toNat 0) r3.1) ++ [FactorOf.mk (Atom.mk r3.2.2.Atom.Kind r3.2.2.Atom.Row r3.2.2.Atom.Args r3.2.2.Atom.Func r3.2.2.Atom.Items r3.2.2.Atom.Op r3.2.2.Atom.Bound) r3.2.2.Exp] ++ List.take ((Int.ofNat r3.1.length).toNat - r3.2.1.toNat) (List.drop r3.2.1.toNat r3.1))) .d) .d) .d)) .d) .d
def zAL (l : List Factor) (f : Factor) : Bool × List Factor := (zCJ l f).fin default
def zEk (a : Int) (b : Int) : Wy0 (Int) := .i (!decide (b = 0)) (.i (decide (a > IntKind.i64.wrap (Int.tdiv 1152921504606846976 b))) (.k 1152921504606846976) (.k (IntKind.i64.wrap (a * b)))) .d
def zCq (a : Int) (b : Int) : Bool × Int := (zEk a b).fin default
abbrev ztw := List Term × List Term × Unit × Int × Int × Unit × Int × Unit
abbrev ztA := List Term × (Int × List Factor × Unit) × Unit
abbrev ttTref05Product2 := List Term × List Term × Int × Int × List Term × Int × List Factor
abbrev ztH := List Term × List Term × Unit × Int × Int × Unit
abbrev zjZ := List Term × Unit
abbrev ttTref05Product5 := List Term × List Term × Int × List Term
abbrev ztz := List Term × List Term × Unit × Int × Unit
def zlr (a : List Term) (b : List Term) (i : Int) (k : Int) (j : Int) (out_ : List Term) (t_0 : Int) (t_1 : List Factor) : Wy ztw ztA ttTref05Product2 := .i (decide (0 ≤ k) && decide (k < Int.ofNat b.length)) (.i (decide (j < Int.ofNat (b.getD k.toNat default).Factors.length)) (.i (decide (0 ≤ k) && decide (k < Int.ofNat b.length)) (.i (decide (0 ≤ j) && decide (j < Int.ofNat (b.getD k.toNat default).Factors.length)) (.bn (zAL t_1 (FactorOf.mk (Atom.mk ((b.getD k.toNat default).Factors.getD j.toNat default).Atom.Kind ((b.getD k.toNat default).Factors.getD j.toNat default).Atom.Row ((b.getD k.toNat default).Factors.getD j.toNat default).Atom.Args ((b.getD k.toNat default).Factors.getD j.toNat default).Atom.Func ((b.getD k.toNat default).Factors.getD j.toNat default).Atom.Items ((b.getD k.toNat default).Factors.getD j.toNat default).Atom.Op ((b.getD k.toNat default).Factors.getD j.toNat default).Atom.Bound) ((b.getD k.toNat default).Factors.getD j.toNat default).Exp)) fun r0 => .h (a, b, (), i, k, (), (IntKind.i64.wrap (j + 1)), ()) (out_, (t_0, (r0), ()), ())) .d) .d) (.k (a, b, i, k, out_, t_0, t_1))) .d
def zyU (x : ztw) (y : ztA) : Wy ztw ztA ttTref05Product2 := zlr x.1 x.2.1 x.2.2.2.1 x.2.2.2.2.1 x.2.2.2.2.2.2.1 y.1 y.2.1.1 y.2.1.2.1
def zyX (n : Nat) (a : List Term) (b : List Term) (i : Int) (k : Int) (j : Int) (out_ : List Term) (t_0 : Int) (t_1 : List Factor) : Bool × ttTref05Product2 := zN (zyU) default n (a, b, (), i, k, (), j, ()) (out_, (t_0, t_1, ()), ())
def zmu (a : List Term) (b : List Term) (i : Int) (k : Int) (out_ : List Term) : Wy ztH zjZ ttTref05Product5 := .i (decide (k < Int.ofNat b.length)) (.i (decide (0 ≤ i) && decide (i < Int.ofNat a.length)) (.i (decide (0 ≤ k) && decide (k < Int.ofNat b.length)) (.bn (zCq (a.getD i.toNat default).Coeff (b.getD k.toNat default).Coeff) fun r4 => .i (decide (0 ≤ i) && decide (i < Int.ofNat a.length)) (.bn (zyX ((a.length + b.length + i.toNat + k.toNat + Int.toNat 0 + out_.length + r4.toNat + (a.getD i.toNat default).Factors.length + 1) + szTs a + szTs b + szTs out_ + szFs (a.getD i.toNat default).Factors) a b i k 0 out_ r4 (a.getD i.toNat default).Factors) fun r3 => .bn (zBY r3.2.2.2.2.1 (TermOf.mk r3.2.2.2.2.2.1 r3.2.2.2.2.2.2)) fun r2 => .h ((r3.1), (r3.2.1), (), (r3.2.2.1), (IntKind.i64.wrap (r3.2.2.2.1 + 1)), ()) ((r2), ())) .d) .d) .d) (.k (a, b, i, out_))
def zA1 (x : ztH) (y : zjZ) : Wy ztH zjZ ttTref05Product5 := zmu x.1 x.2.1 x.2.2.2.1 x.2.2.2.2.1 y.1
def zzM (n : Nat) (a : List Term) (b : List Term) (i : Int) (k : Int) (out_ : List Term) : Bool × ttTref05Product5 := zN (zA1) default n (a, b, (), i, k, ()) (out_, ())
def zmi (a : List Term) (b : List Term) (i : Int) (out_ : List Term) : Wy ztz zjZ (List Term) := .i (decide (i < Int.ofNat a.length)) (.bn (zzM ((a.length + b.length + i.toNat + Int.toNat 0 + out_.length + 1) + szTs a + szTs b + szTs out_) a b i 0 out_) fun r8 => .h ((r8.1), (r8.2.1), (), (IntKind.i64.wrap (r8.2.2.1 + 1)), ()) ((r8.2.2.2), ())) (.k out_)
def zAO (x : ztz) (y : zjZ) : Wy ztz zjZ (List Term) := zmi x.1 x.2.1 x.2.2.2.1 y.1
def zAf (n : Nat) (a : List Term) (b : List Term) (i : Int) (out_ : List Term) : Bool × List Term := zN (zAO) default n (a, b, (), i, ()) (out_, ())
def zBG (a : List Term) (b : List Term) : Wy0 (List Term) := .bn (zAf ((a.length + b.length + Int.toNat 0 + 0 + 1) + szTs a + szTs b + szTs []) a b 0 []) fun r10 => .k r10
def zyL (a : List Term) (b : List Term) : Bool × List Term := (zBG a b).fin default
def zGz (a : List Term) (b : List Term) : Wy0 (List Term × Int) := .bn (zpV a) fun r3 => .i (!r3) (.k ([], 1)) (.bn (zpV b) fun r2 => .i (!r2) (.k ([], 1)) (.bn (zyL a b) fun r1 => .bn (zBw r1) fun r0 => .k (r0.1, r0.2)))
def zJa (a : List Term) (b : List Term) : Bool × (List Term × Int) := (zGz a b).fin default
abbrev zAh := List Term × List Term × Int × Unit
def zq3 (a : List Term) (b : List Term) (i : Int) : Wy zAh (Unit) (List Term) := .i (decide (i < Int.ofNat b.length)) (.i (decide (0 ≤ i) && decide (i < Int.ofNat b.length)) (.bn (zBY a (b.getD i.toNat default)) fun r0 => .h ((r0), b, (IntKind.i64.wrap (i + 1)), ()) ()) .d) (.k a)
def zFp (x : zAh) (y : Unit) : Wy zAh (Unit) (List Term) := zq3 x.1 x.2.1 x.2.2.1
def zEZ (n : Nat) (a : List Term) (b : List Term) (i : Int) : Bool × List Term := zN (zFp) default n (a, b, i, ()) ()
def zGs (a : List Term) (b : List Term) : Wy0 (List Term) := .bn (zEZ (a.length + b.length + Int.toNat 0 + 1) a b 0) fun r2 => .k r2
def zFD (a : List Term) (b : List Term) : Bool × List Term := (zGs a b).fin default
def zGn (a : List Term) (b : List Term) : Wy0 (List Term × Int) := .bn (zpV a) fun r3 => .i (!r3) (.k ([], 1)) (.bn (zpV b) fun r2 => .i (!r2) (.k ([], 1)) (.bn (zFD a b) fun r1 => .bn (zBw r1) fun r0 => .k (r0.1, r0.2)))
def zJC (a : List Term) (b : List Term) : Bool × (List Term × Int) := (zGn a b).fin default
def insT (t : Term) : List Term → List Term
 | [] => [t]
 | x :: r => if cT x t = 0 then ⟨znU x.Coeff t.Coeff, t.Factors⟩ :: r else t :: x :: r
def insF (f : Factor) : List Factor → List Factor
 | [] => [f]
 | x :: r => if cF x f = 0 then (if f.Atom.Kind < 3 then ⟨f.Atom, x.Exp + f.Exp⟩ else f) :: r else f :: x :: r
theorem zPW {t : Term} {l : List Term} {k : Nat} (hk : k < l.length) : insT t (l.drop k) = if cT (l.getD k default) t = 0 then ⟨znU (l.getD k default).Coeff t.Coeff, t.Factors⟩ :: l.drop (k + 1) else t :: l.drop k := by
 rw [zbF hk]; rfl
theorem zP8 {f : Factor} {l : List Factor} {k : Nat} (hk : k < l.length) : insF f (l.drop k) = if cF (l.getD k default) f = 0 then (if f.Atom.Kind < 3 then ⟨f.Atom, (l.getD k default).Exp + f.Exp⟩ else f) :: l.drop (k + 1) else f :: l.drop k := by
 rw [zbF hk]; rfl
theorem zLW (t : Term) : ∀ l : List Term, putA t l = l.takeWhile (fun x => decide (cT x t < 0)) ++ insT t (l.dropWhile (fun x => decide (cT x t < 0)))
 | [] => rfl
 | x :: r => by
  rw [List.takeWhile_cons, List.dropWhile_cons]
  unfold putA
  by_cases h : cT x t < 0
  ·simp only [h, if_true, decide_true, List.cons_append]
   rw [zLW t r]
  ·simp only [h, if_false, decide_false, Bool.false_eq_true, List.nil_append]; rfl
theorem zMo (f : Factor) : ∀ l : List Factor, facA f l = l.takeWhile (fun x => decide (cF x f < 0)) ++ insF f (l.dropWhile (fun x => decide (cF x f < 0)))
 | [] => rfl
 | x :: r => by
  rw [List.takeWhile_cons, List.dropWhile_cons]
  unfold facA
  by_cases h : cF x f < 0
  ·simp only [h, if_true, decide_true, List.cons_append]
   rw [zMo f r]
  ·simp only [h, if_false, decide_false, Bool.false_eq_true, List.nil_append]; rfl
theorem zMv {a b : Int} (ha : 0 ≤ a ∧ a ≤ 1152921504606846976) (hb : 0 ≤ b ∧ b ≤ 1152921504606846976) : IntKind.i64.wrap (a + b) = a + b := zhR (by omega) (by omega)
theorem zNT {τ : Type} (l : List τ) (p : τ → Bool) : (l.takeWhile p).length ≤ l.length := (List.takeWhile_prefix p).length_le
theorem beq0 (z : Int) : (z == 0) = decide (z = 0) := beqd z 0
theorem zMi {d : Nat} (l : List Term) (t : Term) (hl : l.length ≤ 1000000) (h : ∀ x ∈ l, zfi (zA d) x.Factors) (hd : d ≤ 99) (hc : ∀ x ∈ l, cOK x) (ht : cOK t) : zBY l t = (true, putA t l) := by
 have hreach : zP = 70368744177664 := rfl
 unfold zBY zGL
 have hL := zIb (W := zFM) (z := default) l (fun x => decide (cT x t < 0)) (fun k => (l, (), (k : Int), ())) (fun _ => (t, ())) (fun k => (l, (k : Int), t))
  (fun k hk H K D => by
   show (zrp l k t).ev H K D = _
   unfold zrp
   simp only [Wy.ev_i, Wy.ev_k, Wy.ev_h, Wy.ev_bn, Wy.ev_d, tT, hk, zm1 (h _ (zC hk)) hd]
   rw [zY (by omega)]; rfl)
  (fun H K D => by
   show (zrp l l.length t).ev H K D = _
   unfold zrp
   simp only [Wy.ev_i, Wy.ev_k, tT, Nat.lt_irrefl]) ((l.length + Int.toNat (0 : Int) + (1 : Nat)) + t.Factors.length) (by omega)
 have hL : zFL ((l.length + Int.toNat (0 : Int) + (1 : Nat)) + t.Factors.length) l 0 t = _ := hL
 rw [hL, zF0, zLW]
 have q1 := zNT l (fun x => decide (cT x t < 0))
 have q2 := zIX (fun x => decide (cT x t < 0)) l
 have q3 := zIZ (fun x => decide (cT x t < 0)) l
 generalize (l.takeWhile fun x => decide (cT x t < 0)).length = k at q1 q2 q3 ⊢
 rw [← q2, ← q3]
 have g1 : (decide ((0 : Int) ≤ (0 : Int)) && decide ((0 : Int) ≤ (k : Int)) && decide ((k : Int) ≤ Int.ofNat l.length)) = true := by simp only [Bool.and_eq_true, decide_eq_true_eq, Int.ofNat_eq_natCast]; omega
 have g2 : decide ((0 + (l.take k).length) * 32 ≤ zP) = true := by simp only [decide_eq_true_eq, List.length_take]; omega
 have g4 : ∀ m : Nat, decide (((l.take k).length + [(⟨0, []⟩ : Term)].length) * 32 ≤ zP) = true := fun m => by simp only [decide_eq_true_eq, List.length_take, List.length_singleton]; omega
 simp only [Wy.fin_i, Wy.fin_k, Wy.fin_bn, List.nil_append, Int.toNat_natCast, zLY, zwJ, g1, g2, cond_true]
 by_cases hk : k < l.length
 ·have g3 : decide ((k : Int) < Int.ofNat l.length) = true := by simp [hk]
  have g5 : (decide ((0 : Int) ≤ (k : Int)) && decide ((k : Int) < Int.ofNat l.length)) = true := by rw [g3]; simp
  have hm := zC hk
  simp only [g3, zfe, Bool.and_self, cond_true, zm1 (h _ hm) hd]
  rw [beq0, zPW hk]
  have gw : IntKind.i64.wrap ((k : Int) + 1) = ((k + 1 : Nat) : Int) := zY (by omega)
  have gp : (zuS (l.getD k default).Coeff t.Coeff).2 = znU (l.getD k default).Coeff t.Coeff := by
   unfold zuS zFo znU
   rw [Wy.fin_k, zMv ⟨by have := (hc _ hm).1; omega, (hc _ hm).2⟩ ⟨by have := ht.1; omega, ht.2⟩]
  have gk : (decide ((0 : Int) ≤ (k : Int)) && decide ((k : Int) ≤ Int.ofNat l.length) && decide (Int.ofNat l.length ≤ Int.ofNat l.length)) = true := by simp only [Bool.and_eq_true, decide_eq_true_eq, Int.ofNat_eq_natCast]; omega
  have gk' : decide ((k : Int) ≤ Int.ofNat l.length) = true := by simp only [decide_eq_true_eq, Int.ofNat_eq_natCast]; omega
  have gk1' : decide (((k + 1 : Nat) : Int) ≤ Int.ofNat l.length) = true := by simp only [decide_eq_true_eq, Int.ofNat_eq_natCast]; omega
  have gk1 : (decide ((0 : Int) ≤ ((k + 1 : Nat) : Int)) && decide (((k + 1 : Nat) : Int) ≤ Int.ofNat l.length) && decide (Int.ofNat l.length ≤ Int.ofNat l.length)) = true := by simp only [Bool.and_eq_true, decide_eq_true_eq, Int.ofNat_eq_natCast]; omega
  have gb : ∀ x : Term, decide (((l.take k).length + [x].length) * 32 ≤ zP) = true := fun x => by simp only [decide_eq_true_eq, List.length_take, List.length_singleton]; omega
  have gc : ∀ (x : Term) (m : Nat), decide (((l.take k ++ [x]).length + (l.drop m).length) * 32 ≤ zP) = true := fun x m => by simp only [decide_eq_true_eq, List.length_take, List.length_drop, List.length_append, List.length_singleton]; omega
  by_cases hz : cT (l.getD k default) t = 0
  ·have hz' : cmpL (zbp (l.getD k default).Factors) (zbp t.Factors) = 0 := hz
   simp only [hz, hz', if_true, decide_true, cond_true, gw, gp, zfe, Bool.true_and, gk1', Int.le_refl, decide_true, cond_true, Bool.and_self, gb, gc, Int.toNat_natCast, zwJ, List.append_assoc, List.singleton_append]
  ·have hz' : ¬ cmpL (zbp (l.getD k default).Factors) (zbp t.Factors) = 0 := hz
   simp only [hz, hz', if_false, decide_false, cond_false, cond_true, zfe, Bool.true_and, gk', Int.le_refl, decide_true, cond_true, Bool.and_self, gb, gc, List.append_assoc, List.singleton_append]
 ·have hk' : k = l.length := by omega
  have g3 : decide ((k : Int) < Int.ofNat l.length) = false := by simp [hk]
  have gk : (decide ((0 : Int) ≤ (k : Int)) && decide ((k : Int) ≤ Int.ofNat l.length) && decide (Int.ofNat l.length ≤ Int.ofNat l.length)) = true := by simp only [Bool.and_eq_true, decide_eq_true_eq, Int.ofNat_eq_natCast]; omega
  have gb : ∀ x : Term, decide (((l.take k).length + [x].length) * 32 ≤ zP) = true := fun x => by simp only [decide_eq_true_eq, List.length_take, List.length_singleton]; omega
  have gc : ∀ (x : Term) (m : Nat), decide (((l.take k ++ [x]).length + (l.drop m).length) * 32 ≤ zP) = true := fun x m => by simp only [decide_eq_true_eq, List.length_take, List.length_drop, List.length_append, List.length_singleton]; omega
  have gk' : decide ((k : Int) ≤ Int.ofNat l.length) = true := by simp only [decide_eq_true_eq, Int.ofNat_eq_natCast]; omega
  simp only [g3, zfe, Bool.true_and, gk', Int.le_refl, decide_true, Bool.and_self, gb, gc, cond_true, cond_false]
  rw [zeQ hk]
  simp [insT, insF]
theorem zQJ {d : Nat} (l : List Factor) (f : Factor) (hl : l.length ≤ 1000000) (h : ∀ x ∈ l, zdL (zA d) x.Atom) (hd : d ≤ 99) (hc : ∀ x ∈ l, 0 ≤ x.Exp ∧ x.Exp ≤ 1000000) (ht : 0 ≤ f.Exp ∧ f.Exp ≤ 1000000) : zAL l f = (true, facA f l) := by
 have hreach : zP = 70368744177664 := rfl
 unfold zAL zCJ
 have hL := zIb (W := zBy) (z := default) l (fun x => decide (cF x f < 0)) (fun k => (l, (), (k : Int), ())) (fun _ => (f, ())) (fun k => (l, (k : Int), f))
  (fun k hk H K D => by
   show (zm9 l k f).ev H K D = _
   unfold zm9
   simp only [Atom.eta, Wy.ev_i, Wy.ev_k, Wy.ev_h, Wy.ev_bn, Wy.ev_d, tT, hk, zo4 (h _ (zC hk)) hd]
   rw [zY (by omega)]; rfl)
  (fun H K D => by
   show (zm9 l l.length f).ev H K D = _
   unfold zm9
   simp only [Wy.ev_i, Wy.ev_k, tT, Nat.lt_irrefl]) (l.length + Int.toNat (0 : Int) + f.Atom.Args.length + f.Atom.Items.length + (1 : Nat)) (by omega)
 have hL : zBQ (l.length + Int.toNat (0 : Int) + f.Atom.Args.length + f.Atom.Items.length + (1 : Nat)) l 0 f = _ := hL
 rw [Atom.eta, show (FactorOf.mk f.Atom f.Exp : Factor) = f from rfl, hL, zF0, zMo]
 have q1 := zNT l (fun x => decide (cF x f < 0))
 have q2 := zIX (fun x => decide (cF x f < 0)) l
 have q3 := zIZ (fun x => decide (cF x f < 0)) l
 generalize (l.takeWhile fun x => decide (cF x f < 0)).length = k at q1 q2 q3 ⊢
 rw [← q2, ← q3]
 have g1 : (decide ((0 : Int) ≤ (0 : Int)) && decide ((0 : Int) ≤ (k : Int)) && decide ((k : Int) ≤ Int.ofNat l.length)) = true := by simp only [Bool.and_eq_true, decide_eq_true_eq, Int.ofNat_eq_natCast]; omega
 have g2 : decide ((0 + (l.take k).length) * 128 ≤ zP) = true := by simp only [decide_eq_true_eq, List.length_take]; omega
 have gb : ∀ x : Factor, decide (((l.take k).length + [x].length) * 128 ≤ zP) = true := fun x => by simp only [decide_eq_true_eq, List.length_take, List.length_singleton]; omega
 have gc : ∀ (x : Factor) (m : Nat), decide (((l.take k ++ [x]).length + (l.drop m).length) * 128 ≤ zP) = true := fun x m => by simp only [decide_eq_true_eq, List.length_take, List.length_drop, List.length_append, List.length_singleton]; omega
 have gk : (decide ((0 : Int) ≤ (k : Int)) && decide ((k : Int) ≤ Int.ofNat l.length) && decide (Int.ofNat l.length ≤ Int.ofNat l.length)) = true := by simp only [Bool.and_eq_true, decide_eq_true_eq, Int.ofNat_eq_natCast]; omega
 have ef : (FactorOf.mk f.Atom f.Exp : Factor) = f := rfl
 simp only [Atom.eta, ef, Wy.fin_i, Wy.fin_k, Wy.fin_bn, List.nil_append, Int.toNat_natCast, zLY, zwJ, g1, g2, cond_true]
 by_cases hk : k < l.length
 ·have g3 : decide ((k : Int) < Int.ofNat l.length) = true := by simp [hk]
  have g5 : (decide ((0 : Int) ≤ (k : Int)) && decide ((k : Int) < Int.ofNat l.length)) = true := by rw [g3]; simp
  have hm := zC hk
  simp only [g3, zfe, Bool.and_self, cond_true, zo4 (h _ hm) hd]
  rw [beq0, zP8 hk]
  have gw : IntKind.i64.wrap ((k : Int) + 1) = ((k + 1 : Nat) : Int) := zY (by omega)
  have gp : IntKind.i64.wrap ((l.getD k default).Exp + f.Exp) = (l.getD k default).Exp + f.Exp := by have := hc _ hm; exact zhR (by omega) (by omega)
  have gk' : decide ((k : Int) ≤ Int.ofNat l.length) = true := by simp only [decide_eq_true_eq, Int.ofNat_eq_natCast]; omega
  have gk1' : decide (((k + 1 : Nat) : Int) ≤ Int.ofNat l.length) = true := by simp only [decide_eq_true_eq, Int.ofNat_eq_natCast]; omega
  have gk1 : (decide ((0 : Int) ≤ ((k + 1 : Nat) : Int)) && decide (((k + 1 : Nat) : Int) ≤ Int.ofNat l.length) && decide (Int.ofNat l.length ≤ Int.ofNat l.length)) = true := by simp only [Bool.and_eq_true, decide_eq_true_eq, Int.ofNat_eq_natCast]; omega
  by_cases hz : cF (l.getD k default) f = 0
  ·have hz' : cmpT (zdx (l.getD k default).Atom) (zdx f.Atom) = 0 := hz
   by_cases hk3 : f.Atom.Kind < 3
   ·simp only [hz, hz', hk3, if_true, decide_true, cond_true, gw, gp, zfe, Bool.true_and, gk1', Int.le_refl, decide_true, cond_true, Bool.and_self, gb, gc, Int.toNat_natCast, zwJ, List.append_assoc, List.singleton_append]
   ·simp only [hz, hz', hk3, if_true, if_false, decide_true, decide_false, cond_true, cond_false, gw, gp, zfe, Bool.true_and, gk1', Int.le_refl, decide_true, cond_true, Bool.and_self, gb, gc, Int.toNat_natCast, zwJ, List.append_assoc, List.singleton_append]
  ·have hz' : ¬ cmpT (zdx (l.getD k default).Atom) (zdx f.Atom) = 0 := hz
   simp only [hz, hz', if_false, decide_false, cond_false, cond_true, zfe, Bool.true_and, gk', Int.le_refl, decide_true, cond_true, Bool.and_self, gb, gc, List.append_assoc, List.singleton_append]
 ·have g3 : decide ((k : Int) < Int.ofNat l.length) = false := by simp [hk]
  have gk' : decide ((k : Int) ≤ Int.ofNat l.length) = true := by simp only [decide_eq_true_eq, Int.ofNat_eq_natCast]; omega
  simp only [g3, zfe, Bool.true_and, gk', Int.le_refl, decide_true, Bool.and_self, gb, gc, cond_true, cond_false]
  rw [zeQ hk]
  simp [insT, insF]
theorem zRi (n : Nat) (h : n ≤ 4000000) : zc7 (n : Int) = (true, []) := by
 have hreach : zP = 70368744177664 := rfl
 unfold zc7 zf0
 have e0 : IntKind.i64.wrap ((0 : Int) - 0) = 0 := rfl
 have e1 : IntKind.i64.wrap ((n : Int) - 0) = (n : Int) := by rw [zhR (by omega) (by omega)]; omega
 have e2 : decide ((n : Int) < 0) = false := decide_eq_false (by omega)
 rw [Wy.fin_i, e2, cond_false, e0, e1]
 by_cases hn : (n : Int) > 0
 ·have e3 : (true && (decide ((n : Int) * Int.ofNat (32 : Nat) ≤ Int.ofNat zP) && (decide ((n : Int) ≤ Int.ofNat zP) && !Nat.beq (2 : Nat) (0 : Nat)))) = true := by
   simp only [Bool.and_eq_true, decide_eq_true_eq, Int.ofNat_eq_natCast]
   exact ⟨trivial, by rw [hreach]; omega, by rw [hreach]; omega, rfl⟩
  rw [Wy.fin_i, decide_eq_true hn, cond_true, Wy.fin_i, e3, cond_true, Wy.fin_k]
  simp
 ·rw [Wy.fin_i, decide_eq_false hn]; rfl
theorem zPe (ls : List (List Term)) (hn : ls.length ≤ 10) (h : ∀ l ∈ ls, l.length ≤ 300000) : zcN ls = (true, ls.flatten) := by
 have hreach : zP = 70368744177664 := rfl
 unfold zcN zfa
 have e : ∀ l : List Term, l ∈ ls → l.length ≤ 300000 := h
 have h1 := zcv (W := zdu) (z := default) (l := ls) (fun i (n : Nat) => (ls, (n : Int), ls, (ls.length : Int), (i : Int), ())) (fun _ _ => ()) (fun y n => .inl (n + y.length)) (fun n => (ls, (n : Int))) (fun i n => n ≤ i * 300000)
  (fun i n hi hI => .inl ⟨_, rfl, by have := e _ (zC hi); omega, fun H K D => by
   show (zcp ls n ls ls.length i).ev H K D = _
   unfold zcp
   have hle := e _ (zC hi)
   have hw : IntKind.i64.wrap ((n : Int) + ((ls.getD i default).length : Int)) = ((n + (ls.getD i default).length : Nat) : Int) := zla (by omega)
   simp only [Wy.ev_i, Wy.ev_k, Wy.ev_h, Wy.ev_bn, Wy.ev_d, tT, hi, hw]
   have h0 : decide (((n + (ls.getD i default).length : Nat) : Int) < 0) = false := decide_eq_false (by omega)
   rw [h0, zY (by omega)]; rfl⟩)
  (fun n hI H K D => by
   show (zcp ls n ls ls.length ls.length).ev H K D = _
   unfold zcp
   simp only [Wy.ev_i, Wy.ev_k, tT, Nat.lt_irrefl]) (ls.length + Int.toNat (0 : Int) + ls.length + (Int.ofNat ls.length).toNat + Int.toNat (0 : Int) + (1 : Nat)) 0 0 (by omega) (by omega) (by omega)
 rw [List.drop_zero, zcs] at h1
 have h1 : ziV (ls.length + Int.toNat (0 : Int) + ls.length + (Int.ofNat ls.length).toNat + Int.toNat (0 : Int) + (1 : Nat)) ls 0 ls (Int.ofNat ls.length) 0 = _ := h1
 have hb : ∀ (r : List (List Term)) (n : Nat), (∀ l ∈ r, l.length ≤ 300000) → r.foldl (fun n (y : List Term) => n + y.length) n ≤ n + r.length * 300000 := fun r => by
  induction r with
  | nil => intro n _; simp
  | cons y r ih =>
   intro n hr
   have q1 := ih (n + y.length) fun l hl => hr l (by simp [hl])
   have q2 := hr y (by simp)
   rw [List.foldl_cons, List.length_cons]; omega
 have hsz := hb ls 0 h
 have h2 := zcv (W := zdj) (z := default) (l := ls) (fun i (out : List Term) => ((), ls, (ls.length : Int), (i : Int), ())) (fun _ out => (out, ())) (fun y out => .inl (out ++ y)) (fun out => out) (fun i out => out.length ≤ i * 300000)
  (fun i out hi hI => .inl ⟨_, rfl, by have := e _ (zC hi); simp only [List.length_append]; omega, fun H K D => by
   show (zcl ls ls.length i out).ev H K D = _
   unfold zcl
   have hle := e _ (zC hi)
   have hr : decide ((out.length + (ls.getD i default).length) * 32 ≤ zP) = true := by simp only [decide_eq_true_eq]; omega
   simp only [Wy.ev_i, Wy.ev_k, Wy.ev_h, Wy.ev_bn, Wy.ev_d, tT, hi, hr]
   rw [zY (by omega)]⟩)
  (fun out hI H K D => by
   show (zcl ls ls.length ls.length out).ev H K D = _
   unfold zcl
   simp only [Wy.ev_i, Wy.ev_k, tT, Nat.lt_irrefl]) (ls.length + (Int.ofNat ls.length).toNat + Int.toNat (0 : Int) + ([] : List Term).length + (1 : Nat)) 0 [] (by omega) (by omega) (by simp)
 rw [List.drop_zero, zcs] at h2
 have h2 : ziG (ls.length + (Int.ofNat ls.length).toNat + Int.toNat (0 : Int) + ([] : List Term).length + (1 : Nat)) ls (Int.ofNat ls.length) 0 [] = _ := h2
 have hf : ∀ (r : List (List Term)) (out : List Term), r.foldl (fun out y => out ++ y) out = out ++ r.flatten := fun r => by
  induction r with
  | nil => intro out; simp
  | cons y r ih => intro out; rw [List.foldl_cons, ih, List.flatten_cons, List.append_assoc]
 rw [Wy.fin_bn, h1, cond_true]
 simp only [Wy.fin_bn, zRi _ (show ls.foldl (fun n (y : List Term) => n + y.length) 0 ≤ 4000000 by have := Nat.mul_le_mul hn (Nat.le_refl 300000); omega), cond_true, h2, Wy.fin_k]
 rw [hf]; simp
theorem zRj (n : Nat) (h : n ≤ 4000000) : zdl (n : Int) = (true, []) := by
 have hreach : zP = 70368744177664 := rfl
 unfold zdl zgE
 have e0 : IntKind.i64.wrap ((0 : Int) - 0) = 0 := rfl
 have e1 : IntKind.i64.wrap ((n : Int) - 0) = (n : Int) := by rw [zhR (by omega) (by omega)]; omega
 have e2 : decide ((n : Int) < 0) = false := decide_eq_false (by omega)
 rw [Wy.fin_i, e2, cond_false, e0, e1]
 by_cases hn : (n : Int) > 0
 ·have e3 : (true && (decide ((n : Int) * Int.ofNat (128 : Nat) ≤ Int.ofNat zP) && (decide ((n : Int) ≤ Int.ofNat zP) && !Nat.beq (11 : Nat) (0 : Nat)))) = true := by
   simp only [Bool.and_eq_true, decide_eq_true_eq, Int.ofNat_eq_natCast]
   exact ⟨trivial, by rw [hreach]; omega, by rw [hreach]; omega, rfl⟩
  rw [Wy.fin_i, decide_eq_true hn, cond_true, Wy.fin_i, e3, cond_true, Wy.fin_k]
  simp
 ·rw [Wy.fin_i, decide_eq_false hn]; rfl
theorem zOW (ls : List (List Factor)) (hn : ls.length ≤ 10) (h : ∀ l ∈ ls, l.length ≤ 300000) : zcU ls = (true, ls.flatten) := by
 have hreach : zP = 70368744177664 := rfl
 unfold zcU zfB
 have e : ∀ l : List Factor, l ∈ ls → l.length ≤ 300000 := h
 have h1 := zcv (W := zdF) (z := default) (l := ls) (fun i (n : Nat) => (ls, (n : Int), ls, (ls.length : Int), (i : Int), ())) (fun _ _ => ()) (fun y n => .inl (n + y.length)) (fun n => (ls, (n : Int))) (fun i n => n ≤ i * 300000)
  (fun i n hi hI => .inl ⟨_, rfl, by have := e _ (zC hi); omega, fun H K D => by
   show (zct ls n ls ls.length i).ev H K D = _
   unfold zct
   have hle := e _ (zC hi)
   have hw : IntKind.i64.wrap ((n : Int) + ((ls.getD i default).length : Int)) = ((n + (ls.getD i default).length : Nat) : Int) := zla (by omega)
   simp only [Wy.ev_i, Wy.ev_k, Wy.ev_h, Wy.ev_bn, Wy.ev_d, tT, hi, hw]
   have h0 : decide (((n + (ls.getD i default).length : Nat) : Int) < 0) = false := decide_eq_false (by omega)
   rw [h0, zY (by omega)]; rfl⟩)
  (fun n hI H K D => by
   show (zct ls n ls ls.length ls.length).ev H K D = _
   unfold zct
   simp only [Wy.ev_i, Wy.ev_k, tT, Nat.lt_irrefl]) (ls.length + Int.toNat (0 : Int) + ls.length + (Int.ofNat ls.length).toNat + Int.toNat (0 : Int) + (1 : Nat)) 0 0 (by omega) (by omega) (by omega)
 rw [List.drop_zero, zcs] at h1
 have h1 : zjq (ls.length + Int.toNat (0 : Int) + ls.length + (Int.ofNat ls.length).toNat + Int.toNat (0 : Int) + (1 : Nat)) ls 0 ls (Int.ofNat ls.length) 0 = _ := h1
 have hb : ∀ (r : List (List Factor)) (n : Nat), (∀ l ∈ r, l.length ≤ 300000) → r.foldl (fun n (y : List Factor) => n + y.length) n ≤ n + r.length * 300000 := fun r => by
  induction r with
  | nil => intro n _; simp
  | cons y r ih =>
   intro n hr
   have q1 := ih (n + y.length) fun l hl => hr l (by simp [hl])
   have q2 := hr y (by simp)
   rw [List.foldl_cons, List.length_cons]; omega
 have hsz := hb ls 0 h
 have h2 := zcv (W := zdr) (z := default) (l := ls) (fun i (out : List Factor) => ((), ls, (ls.length : Int), (i : Int), ())) (fun _ out => (out, ())) (fun y out => .inl (out ++ y)) (fun out => out) (fun i out => out.length ≤ i * 300000)
  (fun i out hi hI => .inl ⟨_, rfl, by have := e _ (zC hi); simp only [List.length_append]; omega, fun H K D => by
   show (zcq ls ls.length i out).ev H K D = _
   unfold zcq
   have hle := e _ (zC hi)
   have hr : decide ((out.length + (ls.getD i default).length) * 128 ≤ zP) = true := by simp only [decide_eq_true_eq]; omega
   simp only [Wy.ev_i, Wy.ev_k, Wy.ev_h, Wy.ev_bn, Wy.ev_d, tT, hi, hr]
   rw [zY (by omega)]⟩)
  (fun out hI H K D => by
   show (zcq ls ls.length ls.length out).ev H K D = _
   unfold zcq
   simp only [Wy.ev_i, Wy.ev_k, tT, Nat.lt_irrefl]) (ls.length + (Int.ofNat ls.length).toNat + Int.toNat (0 : Int) + ([] : List Factor).length + (1 : Nat)) 0 [] (by omega) (by omega) (by simp)
 rw [List.drop_zero, zcs] at h2
 have h2 : ziK (ls.length + (Int.ofNat ls.length).toNat + Int.toNat (0 : Int) + ([] : List Factor).length + (1 : Nat)) ls (Int.ofNat ls.length) 0 [] = _ := h2
 have hf : ∀ (r : List (List Factor)) (out : List Factor), r.foldl (fun out y => out ++ y) out = out ++ r.flatten := fun r => by
  induction r with
  | nil => intro out; simp
  | cons y r ih => intro out; rw [List.foldl_cons, ih, List.flatten_cons, List.append_assoc]
 rw [Wy.fin_bn, h1, cond_true]
 simp only [Wy.fin_bn, zRj _ (show ls.foldl (fun n (y : List Factor) => n + y.length) 0 ≤ 4000000 by have := Nat.mul_le_mul hn (Nat.le_refl 300000); omega), cond_true, h2, Wy.fin_k]
 rw [hf]; simp
theorem zxQ {d : Nat} (hd : d ≤ 99) : ∀ (n : Nat) (a b out : List Factor), a.length + b.length < n → a.length + b.length + out.length ≤ 1000000 → (∀ x ∈ a, zdL (zA d) x.Atom ∧ 0 ≤ x.Exp ∧ x.Exp ≤ 1000000) → (∀ x ∈ b, 0 ≤ x.Exp ∧ x.Exp ≤ 1000000) →
  ∃ a' b' out', zqV n a b out = (true, (a', b', out')) ∧ out' ++ (a' ++ b') = out ++ zbf a b ∧ a'.length ≤ a.length ∧ b'.length ≤ b.length ∧ out'.length ≤ out.length + a.length + b.length
 | 0, a, b, out, h, _, _, _ => by omega
 | n + 1, a, b, out, h, hl, ha, hb => by
  have hreach : zP = 70368744177664 := rfl
  show ∃ a' b' out', (zq2 a b out).ev (fun x y => zqV n x.1 x.2.1 y.1) (fun r => (true, r)) (false, default) = _ ∧ _
  unfold zq2
  match a, b, h, hl, ha, hb with
  | [], b, h, hl, ha, hb => exact ⟨[], b, out, rfl, by rw [zbf]; simp, Nat.le_refl _, Nat.le_refl _, by omega⟩
  | x :: a, [], h, hl, ha, hb =>
   have e1 : decide (Int.ofNat (x :: a).length > 0) = true := by simp
   refine ⟨x :: a, [], out, ?_, by rw [zbf]; simp, Nat.le_refl _, Nat.le_refl _, by omega⟩
   rw [Wy.ev_i, e1, cond_true]; rfl
  | x :: a, y :: b, h, hl, ha, hb =>
   have hx := ha x (by simp)
   have hy := hb y (by simp)
   simp only [List.length_cons] at h hl
   have e1 : decide (Int.ofNat (x :: a).length > 0) = true := by simp
   have e2 : decide (Int.ofNat (y :: b).length > 0) = true := by simp
   have e3 : (decide ((0 : Int) ≤ 0) && decide ((0 : Int) < Int.ofNat (x :: a).length)) = true := by simp
   have e4 : (decide ((0 : Int) ≤ 0) && decide ((0 : Int) < Int.ofNat (y :: b).length)) = true := by simp
   have e5 : (x :: a).getD (Int.toNat 0) default = x := rfl
   have e6 : (y :: b).getD (Int.toNat 0) default = y := rfl
   have e7 : ∀ z : Factor, decide ((out.length + [z].length) * 128 ≤ zP) = true := fun z => by simp only [decide_eq_true_eq, List.length_singleton]; omega
   have e8 : (decide ((0 : Int) ≤ 1) && decide ((1 : Int) ≤ Int.ofNat (x :: a).length) && decide (Int.ofNat (x :: a).length ≤ Int.ofNat (x :: a).length)) = true := by simp; omega
   have e9 : (decide ((0 : Int) ≤ 1) && decide ((1 : Int) ≤ Int.ofNat (y :: b).length) && decide (Int.ofNat (y :: b).length ≤ Int.ofNat (y :: b).length)) = true := by simp; omega
   have e10 : List.take ((Int.ofNat (x :: a).length).toNat - Int.toNat 1) (List.drop (Int.toNat 1) (x :: a)) = a := by rw [show Int.toNat 1 = 1 from rfl, zwJ]; rfl
   have e11 : List.take ((Int.ofNat (y :: b).length).toNat - Int.toNat 1) (List.drop (Int.toNat 1) (y :: b)) = b := by rw [show Int.toNat 1 = 1 from rfl, zwJ]; rfl
   have ea : ∀ z ∈ a, zdL (zA d) z.Atom ∧ 0 ≤ z.Exp ∧ z.Exp ≤ 1000000 := fun z hz => ha z (by simp [hz])
   have eb : ∀ z ∈ b, 0 ≤ z.Exp ∧ z.Exp ≤ 1000000 := fun z hz => hb z (by simp [hz])
   have ex : (FactorOf.mk x.Atom x.Exp : Factor) = x := rfl
   have ey : (FactorOf.mk y.Atom y.Exp : Factor) = y := rfl
   simp only [Wy.ev_i, Wy.ev_k, Wy.ev_h, Wy.ev_bn, Wy.ev_d, e1, e2, e3, e4, e5, e6, e7, e8, e9, e10, e11, cond_true, Atom.eta, zpA hx.1 hd, zIw, ex, ey]
   rw [zbf]
   have hcf : cF x y = cmpT (zdx x.Atom) (zdx y.Atom) := rfl
   rw [← hcf]
   by_cases h1 : cF x y < 0
   ·simp only [h1, decide_true, cond_true, if_true]
    obtain ⟨a', b', out', r1, r2, r3, r4, r5⟩ := zxQ hd n a (y :: b) (out ++ [x]) (by simp only [List.length_cons]; omega) (by simp only [List.length_cons, List.length_append, List.length_nil]; omega) ea hb
    refine ⟨a', b', out', r1, by rw [r2]; simp, by simp only [List.length_cons]; omega, by simpa using r4, by simp only [List.length_cons, List.length_append, List.length_nil] at r5 ⊢; omega⟩
   ·by_cases h2 : 0 < cF x y
    ·have h2' : cF x y > 0 := h2
     simp only [h1, h2, h2', decide_true, decide_false, cond_true, cond_false, if_true, if_false]
     obtain ⟨a', b', out', r1, r2, r3, r4, r5⟩ := zxQ hd n (x :: a) b (out ++ [y]) (by simp only [List.length_cons]; omega) (by simp only [List.length_cons, List.length_append, List.length_nil]; omega) ha eb
     refine ⟨a', b', out', r1, by rw [r2]; simp, by simpa using r3, by simp only [List.length_cons]; omega, by simp only [List.length_cons, List.length_append, List.length_nil] at r5 ⊢; omega⟩
    ·have h2' : ¬ cF x y > 0 := h2
     have hw : IntKind.i64.wrap (x.Exp + y.Exp) = x.Exp + y.Exp := zhR (by omega) (by omega)
     simp only [h1, h2, h2', decide_false, cond_false, if_false, hw]
     have hk : (x.Atom.Kind == 3 || x.Atom.Kind == 4) = decide (x.Atom.Kind = 3 ∨ x.Atom.Kind = 4) := by rw [beqd, beqd, ← Bool.decide_or]
     rw [hk]
     by_cases h3 : x.Atom.Kind = 3 ∨ x.Atom.Kind = 4
     ·simp only [h3, decide_true, Bool.not_true, cond_false, if_true]
      obtain ⟨a', b', out', r1, r2, r3, r4, r5⟩ := zxQ hd n a b (out ++ [x]) (by omega) (by simp only [List.length_append, List.length_cons, List.length_nil]; omega) ea eb
      refine ⟨a', b', out', r1, by rw [r2]; simp, by simp only [List.length_cons]; omega, by simp only [List.length_cons]; omega, by simp only [List.length_cons, List.length_append, List.length_nil] at r5 ⊢; omega⟩
     ·simp only [h3, decide_false, Bool.not_false, cond_true, if_false]
      obtain ⟨a', b', out', r1, r2, r3, r4, r5⟩ := zxQ hd n a b (out ++ [⟨x.Atom, x.Exp + y.Exp⟩]) (by omega) (by simp only [List.length_append, List.length_cons, List.length_nil]; omega) ea eb
      refine ⟨a', b', out', r1, by rw [r2]; simp, by simp only [List.length_cons]; omega, by simp only [List.length_cons]; omega, by simp only [List.length_cons, List.length_append, List.length_nil] at r5 ⊢; omega⟩
theorem zQj {d : Nat} (hd : d ≤ 99) (a b : List Factor) (hl : a.length + b.length ≤ 100000) (ha : ∀ x ∈ a, zdL (zA d) x.Atom ∧ 0 ≤ x.Exp ∧ x.Exp ≤ 1000000) (hb : ∀ x ∈ b, 0 ≤ x.Exp ∧ x.Exp ≤ 1000000) : zkP a b = (true, zbf a b) := by
 unfold zkP zsC
 obtain ⟨a', b', out', r1, r2, r3, r4, r5⟩ := zxQ hd (a.length + b.length + (0 : Nat) + (1 : Nat)) a b [] (by omega) (by simp; omega) ha hb
 rw [Wy.fin_bn, r1, cond_true]
 have hc := zOW [out', a', b'] (by simp) (fun l hl' => by
  simp only [List.mem_cons, List.not_mem_nil, or_false] at hl'
  simp only [List.length_nil] at r5
  rcases hl' with rfl | rfl | rfl <;> omega)
 simp only [Wy.fin_bn, hc, cond_true, Wy.fin_k]
 congr 1
 simpa using r2
theorem zKr {a b : Int} (ha : 1 ≤ a ∧ a ≤ 1152921504606846976) (hb : 1 ≤ b ∧ b ≤ 1152921504606846976) : zmq a b = (true, zoi a b) ∧ zCq a b = (true, zoi a b) := by
 obtain ⟨h1, h2⟩ := zzu ha hb
 have h0 : (!decide (b = (0 : Int))) = true := by rw [decide_eq_false (by omega)]; rfl
 have hq : 0 ≤ Int.tdiv 1152921504606846976 b ∧ Int.tdiv 1152921504606846976 b ≤ 1152921504606846976 := by
  rw [Int.tdiv_eq_ediv_of_nonneg (by omega)]
  exact ⟨Int.ediv_nonneg (by omega) (by omega), Int.ediv_le_self _ (by omega)⟩
 have hw : IntKind.i64.wrap (Int.tdiv 1152921504606846976 b) = Int.tdiv 1152921504606846976 b := zhR (by omega) (by omega)
 have key : ∀ w : Int, (w = if Int.tdiv 1152921504606846976 b < a then 1152921504606846976 else IntKind.i64.wrap (a * b)) → w = zoi a b := fun w e => by
  rw [e]; unfold zoi
  split
  ·rfl
  ·rename_i hn
   have h3 := h2 hn
   have h4 := Int.mul_nonneg (show 0 ≤ a by omega) (show 0 ≤ b by omega)
   exact zhR (by omega) (by omega)
 constructor
 ·unfold zmq zqQ
  rw [Wy.fin_i, h0, cond_true, Wy.fin_i, hw, Wy.fin_k, Wy.fin_k]
  by_cases hc : Int.tdiv 1152921504606846976 b < a
  ·rw [decide_eq_true hc, cond_true]; exact congrArg (Prod.mk true) (key _ (by rw [if_pos hc]))
  ·rw [decide_eq_false hc, cond_false]; exact congrArg (Prod.mk true) (key _ (by rw [if_neg hc]))
 ·unfold zCq zEk
  rw [Wy.fin_i, h0, cond_true, Wy.fin_i, hw, Wy.fin_k, Wy.fin_k]
  by_cases hc : Int.tdiv 1152921504606846976 b < a
  ·rw [decide_eq_true hc, cond_true]; exact congrArg (Prod.mk true) (key _ (by rw [if_pos hc]))
  ·rw [decide_eq_false hc, cond_false]; exact congrArg (Prod.mk true) (key _ (by rw [if_neg hc]))
theorem zqW {τ : Type} [Inhabited τ] {R : τ → τ → Prop} (ht : ∀ x y z, R x y → R y z → R x z) : ∀ l : List τ, (∀ k, 0 < k → k < l.length → R (l.getD (k - 1) default) (l.getD k default)) → l.Pairwise R
 | [], _ => .nil
 | [x], _ => by simp
 | x :: y :: r, h => by
  have h1 : R x y := h 1 (by omega) (by simp)
  have h2 := zqW ht (y :: r) fun k hk hl => by
   have := h (k + 1) (by omega) (by simpa using hl)
   obtain ⟨j, rfl⟩ : ∃ j, k = j + 1 := ⟨k - 1, by omega⟩
   exact this
  refine List.pairwise_cons.2 ⟨fun z hz => ?_, h2⟩
  rcases List.mem_cons.1 hz with rfl | hz
  ·exact h1
  ·exact ht x y z h1 ((List.pairwise_cons.1 h2).1 z hz)
def GF (f : Factor) : Prop := (zeF (zbP 9) f.Atom = true ∧ zlm f.Atom ∧ f.Atom.Items.length ≤ 1024) ∧ 1 ≤ f.Exp ∧ f.Exp ≤ 1000000
def GT (t : Term) : Prop := cOK t ∧ t.Factors.length ≤ 1000 ∧ ∀ f ∈ t.Factors, GF f
def VT (t : Term) : Prop := GT t ∧ Srf t.Factors ∧ t.Factors.length ≤ 64 ∧ ∀ f ∈ t.Factors, eOK f ∧ f.Exp ≤ 64
theorem zqO {a : List Term} (h : zbH a = true) (hw : zhZ a) : Srs a ∧ a.length ≤ 512 ∧ ∀ t ∈ a, VT t := by
 have h9 := zK9 h (Nat.le_refl 9)
 rw [zHy] at h
 obtain ⟨w1, w2, w3, w4⟩ := zzz (zB1 h)
 have hall := h
 simp only [vAnn, Bool.and_eq_true] at hall
 refine ⟨zqW (R := fun x y => cT x y < 0) (fun x y z h1 h2 => zAl h1 h2) a fun k hk hl => ?_, w1, fun t ht => ?_⟩
 ·have := zea.1 hall.2 k (by omega) (by omega)
  simp only [chkT, Bool.and_eq_true, Bool.or_eq_true, decide_eq_true_eq] at this
  rcases this.1.2 with e | e
  ·omega
  ·exact e
 ·obtain ⟨hc, hok⟩ := zqH h ht
  obtain ⟨l1, l2⟩ := w4 t ht
  have hwt := zpE (zvD (ztU hw t ht)).2.1
  refine ⟨⟨hc, by omega, fun f hf => ?_⟩, zqW (R := fun x y => cF x y < 0) (fun x y z h1 h2 => zqS h1 h2) _ fun k hk hl => ?_, l1, fun f hf => ?_⟩
  ·obtain ⟨⟨e1, _⟩, hv⟩ := zni hok hf
   exact ⟨⟨by rw [zN6 (Nat.le_refl 9)]; exact hv, (zqJ (hwt f hf)).1, (l2 f hf).2⟩, e1, by have := (l2 f hf).1; omega⟩
  ·have := zea.1 hok k (by omega) (by omega)
   simp only [chkF, Bool.and_eq_true, Bool.or_eq_true, decide_eq_true_eq] at this
   rcases this.1.2 with e | e
   ·omega
   ·exact e
  ·obtain ⟨⟨_, e2⟩, hv⟩ := zni hok hf
   exact ⟨⟨zvH hv, e2⟩, (l2 f hf).1⟩
theorem zzj {m : Nat} {x : Atom} (h : zeF (zbP m) x = true) (hi : x.Items.length ≤ 1024) : zdL (zA 9) x := by
 cases zfv.1 h with
 | var r h => exact ⟨⟨by simp, by simp, by show (ByteArray.mk #[]).size ≤ _; decide⟩, fun a ha => (by cases ha), fun w hw => (by cases hw)⟩
 | mon b c hb hc _ _ _ =>
  refine ⟨⟨by simp, by simp, by show (ByteArray.mk #[]).size ≤ _; decide⟩, fun y hy => ?_, fun w hw => (by cases hw)⟩
  simp only [List.mem_cons, List.not_mem_nil, or_false] at hy
  rcases hy with rfl | rfl
  ·exact (zjW hb).1
  ·exact (zjW hc).1
 | del b hb _ _ _ =>
  refine ⟨⟨by simp, by simp, by show (ByteArray.mk #[]).size ≤ _; decide⟩, fun y hy => ?_, fun w hw => (by cases hw)⟩
  rw [List.mem_singleton] at hy; subst hy; exact (zjW hb).1
 | abs b hb _ _ =>
  refine ⟨⟨by simp, by simp, by show (ByteArray.mk #[]).size ≤ _; decide⟩, fun y hy => ?_, fun w hw => (by cases hw)⟩
  rw [List.mem_singleton] at hy; subst hy; exact (zjW hb).1
 | tst f l o b hl hv hs hf =>
  obtain ⟨_, hb, hit⟩ := zrL hf
  simp only at hi
  exact ⟨⟨by simp, by simp only; omega, by have := zuh hb; simp only; omega⟩, fun a ha => (by cases ha), fun w hw => ⟨by have := zuh (hit w hw).1; omega, (zjW (hv w hw).1).1⟩⟩
theorem GT.fine {t : Term} (h : GT t) : zfi (zA 9) t.Factors := ⟨by have := h.2.1; omega, fun f hf => zzj (h.2.2 f hf).1.1 (h.2.2 f hf).1.2.2⟩
theorem GF.gF {f : Factor} (h : GF f) : gF (zbP 9) f := ⟨h.1.1, h.1.2.1, by constructor <;> (have := h.2; omega)⟩
theorem GT.text {t : Term} (h : GT t) : zmk t.Factors = (true, bs (txL t.Factors)) :=
 (zK3 1000).2.2 9 t.Factors h.2.1 (fun f hf => ⟨(h.2.2 f hf).1.1, (h.2.2 f hf).1.2.1, (h.2.2 f hf).1.2.2, (h.2.2 f hf).gF.2.2⟩) (by omega)
theorem GT.inj {s t : Term} (hs : GT s) (ht : GT t) (h : bs (txL s.Factors) = bs (txL t.Factors)) : s.Factors = t.Factors :=
 zPX (fun f hf => (hs.2.2 f hf).gF) (fun f hf => (ht.2.2 f hf).gF) (zQ0 h)
def zlx : Int → List Term → List (Go.Value × Int)
 | _, [] => []
 | i, t :: r => (.string (bs (txL t.Factors)), i) :: zlx (i + 1) r
def posA (k : ByteArray) : List Term → Option Nat
 | [] => none
 | t :: r => if k = bs (txL t.Factors) then some 0 else (posA k r).map (· + 1)
theorem zBt (k : ByteArray) (t : Term) (r : List Term) : posA k (t :: r) = if k = bs (txL t.Factors) then some 0 else (posA k r).map (· + 1) := rfl
theorem keyS (a b : ByteArray) : znV (.string a) (.string b) = decide (a = b) := by
 cases a with | mk x => cases b with | mk y =>
 show (x == y) = _
 by_cases h : x = y
 ·subst h; simp
 ·have : (x == y) = false := by rw [beq_eq_false_iff_ne]; exact h
  rw [this]; simp [h]
theorem zLo (k : ByteArray) : ∀ (o : List Term) (i : Int), zNm (.string k) (zlx i o) = (posA k o).isSome
 | [], i => rfl
 | t :: r, i => by
  show (bif znV (.string k) (.string (bs (txL t.Factors))) then true else zNm (.string k) (zlx (i + 1) r)) = _
  rw [keyS, zLo k r, zBt]
  by_cases h : k = bs (txL t.Factors)
  ·rw [decide_eq_true h, if_pos h]; rfl
  ·rw [decide_eq_false h, if_neg h]; cases posA k r <;> rfl
theorem zKq (k : ByteArray) : ∀ (o : List Term) (i : Int), zvg (.string k) (zlx i o) = (posA k o).map fun j : Nat => i + (j : Int)
 | [], i => rfl
 | t :: r, i => by
  show (bif znV (.string k) (.string (bs (txL t.Factors))) then some i else zvg (.string k) (zlx (i + 1) r)) = _
  rw [keyS, zKq k r, zBt]
  by_cases h : k = bs (txL t.Factors)
  ·rw [decide_eq_true h, if_pos h]; simp
  ·rw [decide_eq_false h, if_neg h]
   cases posA k r with
   | none => rfl
   | some j =>
    have e : i + 1 + (j : Int) = i + ((j + 1 : Nat) : Int) := by omega
    simp only [cond_false, Option.map_some, e]
theorem zKk (k : ByteArray) (x : Int) : ∀ (o : List Term) (i : Int), posA k o = none → zM6 (.string k) x (zlx i o) = zlx i o ++ [(.string k, x)]
 | [], i, _ => rfl
 | t :: r, i, h => by
  rw [zBt] at h
  by_cases hk : k = bs (txL t.Factors)
  ·rw [if_pos hk] at h; cases h
  ·rw [if_neg hk] at h
   show (bif znV (.string k) (.string (bs (txL t.Factors))) then _ else (.string (bs (txL t.Factors)), i) :: zM6 (.string k) x (zlx (i + 1) r)) = _
   rw [keyS, decide_eq_false hk, zKk k x r (i + 1) (by cases hp : posA k r with | none => rfl | some j => rw [hp] at h; cases h)]
   rfl
theorem zJf (t : Term) : ∀ (o : List Term) (i : Int), zlx i (o ++ [t]) = zlx i o ++ [(.string (bs (txL t.Factors)), i + (o.length : Int))]
 | [], i => by simp [zlx]
 | x :: r, i => by
  have e : i + 1 + (r.length : Int) = i + ((r.length + 1 : Nat) : Int) := by omega
  simp only [List.cons_append, zlx, List.length_cons, zJf t r, e]
theorem zJM (y : Term) : ∀ (o : List Term) (j : Nat) (i : Int), (o.getD j default).Factors = y.Factors → zlx i (o.set j y) = zlx i o
 | [], j, i, _ => rfl
 | x :: r, 0, i, h => by simp only [List.set_cons_zero, zlx]; rw [show x.Factors = y.Factors from h]
 | x :: r, j + 1, i, h => by simp only [List.set_cons_succ, zlx]; rw [zJM y r j (i + 1) h]
theorem zL3 {t : Term} (ht : GT t) : ∀ {o : List Term}, (∀ x ∈ o, GT x) → (match posA (bs (txL t.Factors)) o with
  | some j => j < o.length ∧ (o.getD j default).Factors = t.Factors ∧ updA t o = o.set j ⟨znU (o.getD j default).Coeff t.Coeff, (o.getD j default).Factors⟩
  | none => updA t o = o ++ [t])
 | [], _ => rfl
 | x :: r, h => by
  have ih := zL3 ht (o := r) fun y hy => h y (by simp [hy])
  rw [zBt]
  unfold updA
  by_cases hk : bs (txL t.Factors) = bs (txL x.Factors)
  ·have e := GT.inj ht (h x (by simp)) hk
   rw [if_pos hk, if_pos e.symm]
   exact ⟨by simp, e.symm, rfl⟩
  ·have e : ¬ x.Factors = t.Factors := fun e => hk (by rw [e])
   rw [if_neg hk, if_neg e]
   cases hp : posA (bs (txL t.Factors)) r with
   | none => rw [hp] at ih; simp only [Option.map_none]; rw [ih]; rfl
   | some j =>
    rw [hp] at ih
    obtain ⟨i1, i2, i3⟩ := ih
    simp only [Option.map_some]
    exact ⟨by simp; exact i1, i2, by rw [i3]; rfl⟩
theorem zOk {t : Term} (ht : GT t) {o : List Term} (ho : ∀ x ∈ o, GT x) : ∀ x ∈ updA t o, GT x := by
 induction o with
 | nil => intro x hx; simp only [updA, List.mem_singleton] at hx; subst hx; exact ht
 | cons y r ih =>
  intro x hx
  unfold updA at hx
  split at hx
  ·rcases List.mem_cons.1 hx with rfl | hx
   ·have := ho y (by simp)
    exact ⟨zJp this.1.1 ht.1.1, this.2⟩
   ·exact ho x (by simp [hx])
  ·rcases List.mem_cons.1 hx with rfl | hx
   ·exact ho x (by simp)
   ·exact ih (fun z hz => ho z (by simp [hz])) x hx
theorem zII (t : Term) : ∀ o : List Term, (updA t o).length ≤ o.length + 1
 | [] => by simp [updA]
 | y :: r => by
  have := zII t r
  unfold updA
  split
  ·simp
  ·simp only [List.length_cons]; omega
theorem zOx (ts : List Term) (hl : ts.length ≤ 1000000) (h : ∀ t ∈ ts, GT t) (n : Nat) (hn : ts.length < n) : zoh n ts ts.length 0 [] [] = (true, zBP ts) := by
 have hreach : zP = 70368744177664 := rfl
 have h2 := zcv (W := zkW) (z := default) (l := ts) (fun i (out : List Term) => ((), (), ts, (ts.length : Int), (i : Int), ())) (fun _ out => (zlx 0 out, out, ())) (fun t out => .inl (updA t out)) (fun out => out) (fun i out => out.length ≤ i ∧ ∀ t ∈ out, GT t)
  (fun i out hi hI => .inl ⟨_, rfl, ⟨by have := zII (ts.getD i default) out; omega, zOk (h _ (zC hi)) hI.2⟩, fun H K D => by
   show (zid ts ts.length i (zlx 0 out) out).ev H K D = _
   unfold zid
   have ht := h _ (zC hi)
   have hp := zL3 ht hI.2
   have hhas := zLo (bs (txL (ts.getD i default).Factors)) out 0
   have hget := zKq (bs (txL (ts.getD i default).Factors)) out 0
   simp only [Wy.ev_i, Wy.ev_k, Wy.ev_h, Wy.ev_bn, Wy.ev_d, tT, hi, ht.text]
   rw [hhas, hget, zY (by omega)]
   cases hpos : posA (bs (txL (ts.getD i default).Factors)) out with
   | none =>
    rw [hpos] at hp
    have hb : decide ((out.length + [ts.getD i default].length) * 32 ≤ zP) = true := by simp only [decide_eq_true_eq, List.length_singleton]; omega
    simp only [Option.isSome_none, cond_false, hb, cond_true]
    rw [zKk _ _ _ _ hpos, hp, zJf]
    simp
   | some j =>
    rw [hpos] at hp
    obtain ⟨p1, p2, p3⟩ := hp
    have hj := hI.2 _ (zC p1)
    have hw : IntKind.i64.wrap ((out.getD j default).Coeff + (ts.getD i default).Coeff) = (out.getD j default).Coeff + (ts.getD i default).Coeff := zMv ⟨by have := hj.1.1; omega, hj.1.2⟩ ⟨by have := ht.1.1; omega, ht.1.2⟩
    have e1 : (0 : Int) + (j : Int) = (j : Int) := by omega
    have e2 : decide (j < out.length) = true := decide_eq_true p1
    simp only [Option.isSome_some, Option.map_some, Option.getD_some, e1, cond_true, tT, e2, hw]
    rw [p3, zJM ⟨znU (out.getD j default).Coeff (ts.getD i default).Coeff, (out.getD j default).Factors⟩ out j 0 rfl]
    rfl⟩)
  (fun out hI H K D => by
   show (zid ts ts.length ts.length (zlx 0 out) out).ev H K D = _
   unfold zid
   simp only [Wy.ev_i, Wy.ev_k, tT, Nat.lt_irrefl]) n 0 [] (by omega) (by omega) ⟨by simp, fun t ht => by cases ht⟩
 rw [List.drop_zero, zcs] at h2
 exact h2
theorem zL8 : ∀ (ts o : List Term), (∀ t ∈ ts, GT t) → (∀ t ∈ o, GT t) → ∀ x ∈ ts.foldl (fun a t => updA t a) o, GT x
 | [], o, _, ho => ho
 | t :: r, o, h, ho => zL8 r (updA t o) (fun x hx => h x (by simp [hx])) (zOk (h t (by simp)) ho)
theorem zJt : ∀ (ts o : List Term), (ts.foldl (fun a t => updA t a) o).length ≤ o.length + ts.length
 | [], o => by simp
 | t :: r, o => by
  have h1 := zJt r (updA t o)
  have h2 := zII t o
  rw [List.foldl_cons, List.length_cons]; omega
theorem zIi (ts : List Term) (hl : ts.length ≤ 1000000) (h : ∀ t ∈ ts, GT t) : zgK ts = (true, sumA [] ts) := by
 unfold zgK zpe
 have hL := zOx ts hl h (ts.length + (Int.ofNat ts.length).toNat + Int.toNat (0 : Int) + (0 : Nat) + (0 : Nat) + (1 : Nat)) (by omega)
 have hL : zoh (ts.length + (Int.ofNat ts.length).toNat + Int.toNat (0 : Int) + (0 : Nat) + (0 : Nat) + (1 : Nat)) ts (Int.ofNat ts.length) 0 [] [] = _ := hL
 rw [Wy.fin_bn, hL, cond_true]
 obtain ⟨hp, hd⟩ := zJJ ts [] [] .nil .nil .nil
 have hs := zzL ts [] .nil
 have hg : ∀ x ∈ zBP ts, GT x := zL8 ts [] h fun x hx => by cases hx
 have hlen : (zBP ts).length ≤ 1000000 := by have := zJt ts []; simp at this; exact Nat.le_trans this hl
 have e : ∀ x ∈ zBP ts, ∀ y, zbz x y = (true, cT x y) := fun x hx y => zpF (hg x hx).fine (by omega) y
 have ok : SortOK zbz (zBP ts) := by
  refine ⟨by omega, fun x hx y _ => by rw [e x hx], fun x hx => ?_, fun x hx y hy z hz h1 h2 => ?_, fun x hx y hy z hz h1 h2 => ?_, fun x hx y hy h1 h2 => ?_⟩
  ·rw [e x hx]; have := zrR (x := x) (y := x) rfl; simp only; omega
  ·rw [e x hx] at h1 ⊢; rw [e y hy] at h2
   exact zAl h1 h2
  ·rw [e x hx] at h1 ⊢; rw [e y hy] at h2
   simp only at h1 h2 ⊢
   have a1 := ztT x y
   have a2 := ztT y z
   have a3 := ztT x z
   have := zzD (zbp z.Factors) (zbp y.Factors) (zbp x.Factors) (show cT z y ≤ 0 by omega) (show cT y x ≤ 0 by omega)
   have : cT z x ≤ 0 := this
   omega
  ·rw [e x hx] at h1; rw [e y hy] at h2
   simp only at h1 h2
   have a1 := ztT x y
   have hz : x.Factors = y.Factors := zCw (by omega)
   by_cases hxy : x = y
   ·exact hxy
   ·exfalso
    -- two terms with the same factors are one
    have hdd : Dst (zBP ts) := hd
    have := List.pairwise_iff_getElem.1 hdd
    obtain ⟨i, hi, ei⟩ := List.mem_iff_getElem.1 hx
    obtain ⟨j, hj, ej⟩ := List.mem_iff_getElem.1 hy
    rcases Nat.lt_trichotomy i j with hij | hij | hij
    ·exact this i j hi hj hij (by rw [ei, ej]; exact hz)
    ·subst hij; exact hxy (ei.symm.trans ej)
    ·exact this j i hj hi hij (by rw [ei, ej]; exact hz.symm)
 unfold zbn zLg
 simp only [Wy.fin_bn, Wy.fin_k, decide_eq_true ok, cond_true]
 congr 1
 refine (ok.unique (hp : (sumA [] ts).Perm (zBP ts)) ?_).symm
 refine hs.imp_of_mem fun {x y} hx hy hxy => ?_
 rw [e y ((hp : (sumA [] ts).Perm (zBP ts)).mem_iff.1 hy)]
 have := ztT x y
 simp only; omega
def zFJ (a : List Term) (e : Int) (b : List Term) (f : Int) : Wy0 (Bool) := .i (e == f) (.bn (zvO a b) fun r0 => .i (r0) (.i (e == 0) (.k true) (.k (Int.ofNat a.length == 0))) (.k false)) (.k false)
def zDs (a : List Term) (e : Int) (b : List Term) (f : Int) : Bool × Bool := (zFJ a e b f).fin default
end Go.Proofs.YtnolcogncjijpaaGreatDoor
end
