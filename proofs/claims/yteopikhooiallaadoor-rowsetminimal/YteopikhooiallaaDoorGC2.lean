/- Texts of this claim, joined (the program, its functions in plain words, and what they compute). -/
import Derived.Test.YteopikhooiallaaDoorGB1
import Derived.Test.YteopikhooiallaaDoorGC1
set_option autoImplicit false
set_option maxRecDepth 1000000
set_option maxHeartbeats 0
/- What the printed functions compute: the reference's functions on sets of row identifiers. -/
set_option autoImplicit false
set_option linter.unusedVariables false
set_option linter.unusedSimpArgs false
namespace Go.Proofs.YteopikhooiallaaDoor
open Go Go.Ab

/-! ### the order of row identifiers -/
def cR (a b : RowID) : Int := if a.Table < b.Table then -1 else if b.Table < a.Table then 1 else if a.Seq < b.Seq then -1 else if b.Seq < a.Seq then 1 else 0
theorem cR_ord : Ord3 cR where
  eq := fun x y => by
    obtain ⟨a, b⟩ := x; obtain ⟨c, d⟩ := y
    simp only [cR, RowID.mk.injEq]
    repeat' split
    all_goals omega
  swap := fun x y => by
    simp only [cR]
    repeat' split
    all_goals omega
  trans := fun x y z => by
    simp only [cR]
    repeat' split
    all_goals omega
theorem cR_range (a b : RowID) : cR a b = -1 ∨ cR a b = 0 ∨ cR a b = 1 := by
  simp only [cR]
  repeat' split
  all_goals omega
theorem eqR' (a b : RowID) : (a.Table == b.Table && a.Seq == b.Seq) = decide (a = b) := by
  obtain ⟨p, q⟩ := a; obtain ⟨r, s⟩ := b
  by_cases h1 : p = r <;> by_cases h2 : q = s <;> simp [h1, h2]
theorem eqR (a b : RowID) : (a.Table == b.Table && (a.Seq == b.Seq && true)) = decide (a = b) := by
  rw [Bool.and_true, eqR']
abbrev cS : List RowID → List RowID → Int := lexc cR
theorem cS_ord : Ord3 cS := lexc_ord cR_ord
abbrev nR : List RowID → List RowID := snorm cR

theorem ref02_Compare_eq (a b : RowID) : ref02_Compare a b = (true, cR a b) := by
  unfold ref02_Compare cR
  rw [eqR]
  by_cases h : a = b
  · subst h; simp
  · obtain ⟨p, q⟩ := a; obtain ⟨r, s⟩ := b
    have h' : ¬ (p = r ∧ q = s) := by simpa using h
    simp only [h, decide_false, cond_false]
    by_cases h1 : p < r
    · simp [h1]
    · by_cases h2 : p = r
      · subst h2
        by_cases h3 : q < s
        · simp [h3]
        · have h4 : s < q := by omega
          simp [h3, h4]
      · have h3 : r < p := by omega
        have h4 : (p == r) = false := by simp [h2]
        simp [h1, h4, h3]

theorem In_loop (l : List RowID) (id : RowID) (hl : l.length ≤ 1000000) : ∀ (n i : Nat), l.length < i + n → i ≤ l.length → ref02_In_L2 n l i id = (true, if id ∈ l.drop i then .inl true else .inr ())
  | 0, i, h, h2 => by omega
  | n + 1, i, h, h2 => by
    rw [ref02_In_L2]
    by_cases hi : i < l.length
    · simp only [Int.ofNat_eq_natCast, lt_nat, le0_nat, decide_true, decide_false, Bool.and_self, Bool.true_and, Bool.and_true, cond_true, cond_false, Int.toNat_natCast, eqR, eqR', Bool.not_true, Bool.not_false, bnd, hi]
      rw [drop_lt hi, wrap_succ (by omega), In_loop l id hl n (i + 1) (by omega) (by omega)]
      generalize l.getD i default = x
      by_cases he : x = id
      · subst he; simp
      · simp [he, Ne.symm he]
    · simp only [Int.ofNat_eq_natCast, lt_nat, le0_nat, decide_true, decide_false, Bool.and_self, Bool.true_and, Bool.and_true, cond_true, cond_false, Int.toNat_natCast, eqR, eqR', Bool.not_true, Bool.not_false, bnd, hi, drop_ge hi]; simp
theorem ref02_In_eq (l : List RowID) (id : RowID) (hl : l.length ≤ 1000000) : ref02_In l id = (true, decide (id ∈ l)) := by
  unfold ref02_In
  rw [show (0 : Int) = ((0 : Nat) : Int) from rfl, In_loop l id hl _ 0 (by simp) (by omega)]
  by_cases h : id ∈ l <;> simp [h, isL, getL, bnd]

/-- Insertion before the first that is greater: did it happen, and with what. -/
def insb (x : RowID) : List RowID → Bool × List RowID
  | [] => (false, [])
  | y :: r => if cR x y < 0 then (true, x :: y :: r) else ((insb x r).1, y :: (insb x r).2)
theorem insb_sins (x : RowID) : ∀ (l : List RowID), x ∉ l → (if (insb x l).1 then (insb x l).2 else (insb x l).2 ++ [x]) = sins cR x l
  | [], _ => by simp [insb, sins]
  | y :: r, h => by
    have h1 : x ≠ y := fun e => h (by simp [e])
    have h2 := insb_sins x r fun e => h (by simp [e])
    unfold insb sins
    by_cases hc : cR x y < 0
    · simp [hc]
    · have h3 : ¬ cR x y = 0 := fun e => h1 ((cR_ord.eq x y).1 e)
      simp only [hc, h3, if_false]
      rw [← h2]
      cases (insb x r).1 <;> simp
theorem insb_length (x : RowID) : ∀ (l : List RowID), (insb x l).2.length ≤ l.length + 1
  | [] => by simp [insb]
  | y :: r => by
    have := insb_length x r
    unfold insb
    split
    · simp
    · simp; omega
theorem insert_loop (l : List RowID) (id : RowID) (hl : l.length ≤ 1000000) : ∀ (n i : Nat) (done : Bool) (o : List RowID), l.length < i + n → i ≤ l.length → o.length ≤ i + (if done then 1 else 0) →
    ref02_insert_L6 n l done i id o = (true, if done then (true, id, o ++ l.drop i) else ((insb id (l.drop i)).1, id, o ++ (insb id (l.drop i)).2))
  | 0, i, done, o, h, h2, h3 => by omega
  | n + 1, i, done, o, h, h2, h3 => by
    rw [ref02_insert_L6]
    by_cases hi : i < l.length
    · have h4 : o.length ≤ i + 1 := by split at h3 <;> omega
      have e1 : (o.length + 1) * 16 ≤ reach := reach_of (by omega) (by omega)
      have e2 : (o.length + 1 + 1) * 16 ≤ reach := reach_of (by omega) (by omega)
      simp only [Int.ofNat_eq_natCast, lt_nat, le0_nat, decide_true, decide_false, Bool.and_self, Bool.true_and, Bool.and_true, cond_true, cond_false, Int.toNat_natCast, eqR, eqR', Bool.not_true, Bool.not_false, bnd, hi, ref02_Compare_eq, List.length_singleton, List.length_append, e1, e2]
      rw [wrap_succ (by omega), drop_lt hi]
      generalize l.getD i default = x
      cases done with
      | true =>
        simp only [Bool.not_true, cond_false, if_true] at h3 ⊢
        rw [insert_loop l id hl n (i + 1) true _ (by omega) (by omega) (by simp; omega)]
        simp
      | false =>
        simp only [Bool.not_false, cond_true, insb, Bool.false_eq_true, if_false] at h3 ⊢
        by_cases hc : cR id x < 0
        · simp only [hc, decide_true, cond_true, if_true]
          rw [insert_loop l id hl n (i + 1) true _ (by omega) (by omega) (by simp; omega)]
          simp
        · simp only [hc, decide_false, cond_false, if_false]
          rw [insert_loop l id hl n (i + 1) false _ (by omega) (by omega) (by simp; omega)]
          simp
    · simp only [Int.ofNat_eq_natCast, lt_nat, le0_nat, decide_true, decide_false, Bool.and_self, Bool.true_and, Bool.and_true, cond_true, cond_false, Int.toNat_natCast, eqR, eqR', Bool.not_true, Bool.not_false, bnd, hi, drop_ge hi]
      cases done <;> simp [insb]
theorem ref02_insert_eq (l : List RowID) (id : RowID) (hl : l.length ≤ 1000000) (hs : SAsc cR l) : ref02_insert l id = (true, sins cR id l) := by
  unfold ref02_insert
  rw [ref02_In_eq l id hl]
  by_cases h : id ∈ l
  · simp only [Int.ofNat_eq_natCast, lt_nat, le0_nat, decide_true, decide_false, Bool.and_self, Bool.true_and, Bool.and_true, cond_true, cond_false, Int.toNat_natCast, eqR, eqR', Bool.not_true, Bool.not_false, bnd, h]
    congr 1
    exact sasc_unique cR_ord hs (sins_asc cR_ord id hs) fun z => by
      rw [sins_mem cR_ord]
      exact ⟨.inr, fun h' => h'.elim (fun e => e ▸ h) fun h' => h'⟩
  · simp only [Int.ofNat_eq_natCast, lt_nat, le0_nat, decide_true, decide_false, Bool.and_self, Bool.true_and, Bool.and_true, cond_true, cond_false, Int.toNat_natCast, eqR, eqR', Bool.not_true, Bool.not_false, bnd, h]
    rw [show (0 : Int) = ((0 : Nat) : Int) from rfl, insert_loop l id hl _ 0 false [] (by simp) (by omega) (by simp)]
    have h1 := insb_length id l
    have e1 : ((insb id l).2.length + 1) * 16 ≤ reach := reach_of (by omega) (by omega)
    simp only [Bool.false_eq_true, if_false, List.drop_zero, List.nil_append, List.length_singleton, e1, decide_true, cond_true]
    rw [← insb_sins id l h]
    cases (insb id l).1 <;> simp
theorem sins_length (x : RowID) : ∀ l : List RowID, (sins cR x l).length ≤ l.length + 1
  | [] => by simp [sins]
  | y :: r => by
    have := sins_length x r
    unfold sins
    split
    · simp
    · split <;> simp <;> omega

theorem Normalize_loop (l : List RowID) (hl : l.length ≤ 100000) : ∀ (n i : Nat) (o : List RowID), l.length < i + n → i ≤ l.length → SAsc cR o → o.length + l.length ≤ 500000 + i → ref02_Normalize_L3 n l o i = (true, (l.drop i).foldl (fun o x => sins cR x o) o)
  | 0, i, o, h, h2, hs, h3 => by omega
  | n + 1, i, o, h, h2, hs, h3 => by
    rw [ref02_Normalize_L3]
    by_cases hi : i < l.length
    · simp only [Int.ofNat_eq_natCast, lt_nat, le0_nat, decide_true, decide_false, Bool.and_self, Bool.true_and, Bool.and_true, cond_true, cond_false, Int.toNat_natCast, eqR, eqR', Bool.not_true, Bool.not_false, bnd, hi]
      rw [drop_lt hi, wrap_succ (by omega), ref02_insert_eq _ _ (by omega) hs]
      generalize l.getD i default = x
      have := sins_length x o
      simp only [cond_true]
      rw [Normalize_loop l hl n (i + 1) _ (by omega) (by omega) (sins_asc cR_ord x hs) (by omega)]
      rfl
    · simp only [Int.ofNat_eq_natCast, lt_nat, le0_nat, decide_true, decide_false, Bool.and_self, Bool.true_and, Bool.and_true, cond_true, cond_false, Int.toNat_natCast, eqR, eqR', Bool.not_true, Bool.not_false, bnd, hi, drop_ge hi]; rfl
theorem ref02_Normalize_eq (l : List RowID) (hl : l.length ≤ 100000) : ref02_Normalize l = (true, nR l) := by
  unfold ref02_Normalize
  rw [show (0 : Int) = ((0 : Nat) : Int) from rfl, Normalize_loop l hl _ 0 [] (by simp) (by omega) .nil (by simp; omega)]
  rfl
theorem Union_loop (b : List RowID) (hl : b.length ≤ 100000) : ∀ (n i : Nat) (o : List RowID), b.length < i + n → i ≤ b.length → SAsc cR o → o.length + b.length ≤ 500000 + i → ref02_Union_L3 n b o i = (true, (b.drop i).foldl (fun o x => sins cR x o) o)
  | 0, i, o, h, h2, hs, h3 => by omega
  | n + 1, i, o, h, h2, hs, h3 => by
    rw [ref02_Union_L3]
    by_cases hi : i < b.length
    · simp only [Int.ofNat_eq_natCast, lt_nat, le0_nat, decide_true, decide_false, Bool.and_self, Bool.true_and, Bool.and_true, cond_true, cond_false, Int.toNat_natCast, eqR, eqR', Bool.not_true, Bool.not_false, bnd, hi]
      rw [drop_lt hi, wrap_succ (by omega), ref02_insert_eq _ _ (by omega) hs]
      generalize b.getD i default = x
      have := sins_length x o
      simp only [cond_true]
      rw [Union_loop b hl n (i + 1) _ (by omega) (by omega) (sins_asc cR_ord x hs) (by omega)]
      rfl
    · simp only [Int.ofNat_eq_natCast, lt_nat, le0_nat, decide_true, decide_false, Bool.and_self, Bool.true_and, Bool.and_true, cond_true, cond_false, Int.toNat_natCast, eqR, eqR', Bool.not_true, Bool.not_false, bnd, hi, drop_ge hi]; rfl
theorem ref02_Union_eq (a b : List RowID) (ha : a.length ≤ 100000) (hb : b.length ≤ 100000) : ref02_Union a b = (true, nR (a ++ b)) := by
  unfold ref02_Union
  have h1 := snorm_length cR_ord a
  rw [ref02_Normalize_eq a ha, bnd, show (0 : Int) = ((0 : Nat) : Int) from rfl]
  simp only [cond_true]
  rw [Union_loop b hb _ 0 _ (by simp; omega) (by omega) (snorm_asc cR_ord a) (by omega)]
  simp only [bnd, cond_true, List.drop_zero, nR, snorm, List.foldl_append]
theorem Minus_loop (a b : List RowID) (ha : a.length ≤ 100000) (hb : b.length ≤ 1000000) : ∀ (n i : Nat) (o : List RowID), a.length < i + n → i ≤ a.length → SAsc cR o → o.length + a.length ≤ 500000 + i →
    ref02_Minus_L3 n a b o i = (true, ((a.drop i).filter fun x => !decide (x ∈ b)).foldl (fun o x => sins cR x o) o)
  | 0, i, o, h, h2, hs, h3 => by omega
  | n + 1, i, o, h, h2, hs, h3 => by
    rw [ref02_Minus_L3]
    by_cases hi : i < a.length
    · simp only [Int.ofNat_eq_natCast, lt_nat, le0_nat, decide_true, decide_false, Bool.and_self, Bool.true_and, Bool.and_true, cond_true, cond_false, Int.toNat_natCast, eqR, eqR', Bool.not_true, Bool.not_false, bnd, hi, ref02_In_eq b _ hb]
      rw [drop_lt hi, wrap_succ (by omega), ref02_insert_eq _ _ (by omega) hs]
      generalize a.getD i default = x
      have := sins_length x o
      by_cases hx : x ∈ b
      · simp only [Int.ofNat_eq_natCast, lt_nat, le0_nat, decide_true, decide_false, Bool.and_self, Bool.true_and, Bool.and_true, cond_true, cond_false, Int.toNat_natCast, eqR, eqR', Bool.not_true, Bool.not_false, bnd, hx, List.filter_cons, Bool.false_eq_true, if_false]
        rw [Minus_loop a b ha hb n (i + 1) _ (by omega) (by omega) hs (by omega)]
      · simp only [Int.ofNat_eq_natCast, lt_nat, le0_nat, decide_true, decide_false, Bool.and_self, Bool.true_and, Bool.and_true, cond_true, cond_false, Int.toNat_natCast, eqR, eqR', Bool.not_true, Bool.not_false, bnd, hx, List.filter_cons, if_true]
        rw [Minus_loop a b ha hb n (i + 1) _ (by omega) (by omega) (sins_asc cR_ord x hs) (by omega)]
        rfl
    · simp only [Int.ofNat_eq_natCast, lt_nat, le0_nat, decide_true, decide_false, Bool.and_self, Bool.true_and, Bool.and_true, cond_true, cond_false, Int.toNat_natCast, eqR, eqR', Bool.not_true, Bool.not_false, bnd, hi, drop_ge hi]; rfl
theorem ref02_Minus_eq (a b : List RowID) (ha : a.length ≤ 100000) (hb : b.length ≤ 1000000) : ref02_Minus a b = (true, nR (a.filter fun x => !decide (x ∈ b))) := by
  unfold ref02_Minus
  rw [show (0 : Int) = ((0 : Nat) : Int) from rfl, Minus_loop a b ha hb _ 0 [] (by simp; omega) (by omega) .nil (by simp; omega)]
  rfl
theorem Subset_loop (a b : List RowID) (ha : a.length ≤ 1000000) (hb : b.length ≤ 1000000) : ∀ (n i : Nat), a.length < i + n → i ≤ a.length → ref02_Subset_L2 n a b i = (true, if (a.drop i).all (fun x => decide (x ∈ b)) then .inr () else .inl false)
  | 0, i, h, h2 => by omega
  | n + 1, i, h, h2 => by
    rw [ref02_Subset_L2]
    by_cases hi : i < a.length
    · simp only [Int.ofNat_eq_natCast, lt_nat, le0_nat, decide_true, decide_false, Bool.and_self, Bool.true_and, Bool.and_true, cond_true, cond_false, Int.toNat_natCast, eqR, eqR', Bool.not_true, Bool.not_false, bnd, hi, ref02_In_eq b _ hb]
      rw [drop_lt hi, wrap_succ (by omega), Subset_loop a b ha hb n (i + 1) (by omega) (by omega)]
      generalize a.getD i default = x
      by_cases hx : x ∈ b <;> simp [hx]
    · simp only [Int.ofNat_eq_natCast, lt_nat, le0_nat, decide_true, decide_false, Bool.and_self, Bool.true_and, Bool.and_true, cond_true, cond_false, Int.toNat_natCast, eqR, eqR', Bool.not_true, Bool.not_false, bnd, hi, drop_ge hi]; rfl
theorem ref02_Subset_eq (a b : List RowID) (ha : a.length ≤ 1000000) (hb : b.length ≤ 1000000) : ref02_Subset a b = (true, a.all fun x => decide (x ∈ b)) := by
  unfold ref02_Subset
  rw [show (0 : Int) = ((0 : Nat) : Int) from rfl, Subset_loop a b ha hb _ 0 (by simp; omega) (by omega)]
  simp only [List.drop_zero]
  cases a.all fun x => decide (x ∈ b) <;> rfl

theorem Same_loop (a b : List RowID) (ha : a.length ≤ 1000000) (hab : a.length = b.length) : ∀ (n i : Nat), a.length < i + n → i ≤ a.length → ref02_Same_L4 n a b i = (true, if a.drop i = b.drop i then .inr () else .inl false)
  | 0, i, h, h2 => by omega
  | n + 1, i, h, h2 => by
    rw [ref02_Same_L4]
    by_cases hi : i < a.length
    · have hi' : i < b.length := by omega
      simp only [Int.ofNat_eq_natCast, lt_nat, le0_nat, decide_true, decide_false, Bool.and_self, Bool.true_and, Bool.and_true, cond_true, cond_false, Int.toNat_natCast, eqR, eqR', Bool.not_true, Bool.not_false, bnd, hi, hi']
      rw [drop_lt hi, drop_lt hi', wrap_succ (by omega), Same_loop a b ha hab n (i + 1) (by omega) (by omega)]
      generalize a.getD i default = x
      generalize b.getD i default = y
      by_cases hx : x = y <;> simp [hx]
    · have hi' : ¬ i < b.length := by omega
      simp only [Int.ofNat_eq_natCast, lt_nat, le0_nat, decide_true, decide_false, Bool.and_self, Bool.true_and, Bool.and_true, cond_true, cond_false, Int.toNat_natCast, eqR, eqR', Bool.not_true, Bool.not_false, bnd, hi, drop_ge hi, drop_ge hi']; simp
theorem ref02_Same_eq (a b : List RowID) (ha : a.length ≤ 1000000) : ref02_Same a b = (true, decide (a = b)) := by
  unfold ref02_Same
  simp only [Int.ofNat_eq_natCast, bne_nat]
  by_cases hab : a.length = b.length
  · simp only [hab, ne_eq, not_true_eq_false, decide_false, cond_false]
    rw [show (0 : Int) = ((0 : Nat) : Int) from rfl, Same_loop a b ha hab _ 0 (by simp; omega) (by omega)]
    by_cases h : a = b <;> simp [h, isL, getL, bnd]
  · have : a ≠ b := fun e => hab (by rw [e])
    simp [hab, this]
theorem Sets_loop (a b : List (List RowID)) (ha : a.length ≤ 1000000) (hae : ∀ s ∈ a, s.length ≤ 1000000) (hab : a.length = b.length) : ∀ (n i : Nat), a.length < i + n → i ≤ a.length → ref02_Sets_L4 n a b i = (true, if a.drop i = b.drop i then .inr () else .inl false)
  | 0, i, h, h2 => by omega
  | n + 1, i, h, h2 => by
    rw [ref02_Sets_L4]
    by_cases hi : i < a.length
    · have hi' : i < b.length := by omega
      simp only [Int.ofNat_eq_natCast, lt_nat, le0_nat, decide_true, decide_false, Bool.and_self, Bool.true_and, Bool.and_true, cond_true, cond_false, Int.toNat_natCast, eqR, eqR', Bool.not_true, Bool.not_false, bnd, hi, hi', ref02_Same_eq _ _ (hae _ (getD_mem hi))]
      rw [drop_lt hi, drop_lt hi', wrap_succ (by omega), Sets_loop a b ha hae hab n (i + 1) (by omega) (by omega)]
      generalize a.getD i default = x
      generalize b.getD i default = y
      by_cases hx : x = y <;> simp [hx]
    · have hi' : ¬ i < b.length := by omega
      simp only [Int.ofNat_eq_natCast, lt_nat, le0_nat, decide_true, decide_false, Bool.and_self, Bool.true_and, Bool.and_true, cond_true, cond_false, Int.toNat_natCast, eqR, eqR', Bool.not_true, Bool.not_false, bnd, hi, drop_ge hi, drop_ge hi']; simp
theorem ref02_Sets_eq (a b : List (List RowID)) (ha : a.length ≤ 1000000) (hae : ∀ s ∈ a, s.length ≤ 1000000) : ref02_Sets a b = (true, decide (a = b)) := by
  unfold ref02_Sets
  simp only [Int.ofNat_eq_natCast, bne_nat]
  by_cases hab : a.length = b.length
  · simp only [hab, ne_eq, not_true_eq_false, decide_false, cond_false]
    rw [show (0 : Int) = ((0 : Nat) : Int) from rfl, Sets_loop a b ha hae hab _ 0 (by simp; omega) (by omega)]
    by_cases h : a = b <;> simp [h, isL, getL, bnd]
  · have : a ≠ b := fun e => hab (by rw [e])
    simp [hab, this]

theorem CompareSets_loop (a b : List RowID) (ha : a.length ≤ 1000000) (hb : b.length ≤ 1000000) : ∀ (n i : Nat), a.length < i + n → i ≤ a.length → i ≤ b.length →
    ∃ r, ref02_CompareSets_L2 n a b i = (true, r) ∧ ((r = .inl (cS (a.drop i) (b.drop i))) ∨ (r = .inr (a, b) ∧ cS (a.drop i) (b.drop i) = if a.length < b.length then -1 else if b.length < a.length then 1 else 0))
  | 0, i, h, h2, h3 => by omega
  | n + 1, i, h, h2, h3 => by
    rw [ref02_CompareSets_L2]
    by_cases hi : i < a.length
    · by_cases hi' : i < b.length
      · simp only [Int.ofNat_eq_natCast, lt_nat, le0_nat, decide_true, decide_false, Bool.and_self, Bool.true_and, Bool.and_true, cond_true, cond_false, Int.toNat_natCast, eqR, eqR', Bool.not_true, Bool.not_false, bnd, hi, hi', ref02_Compare_eq]
        rw [drop_lt hi, drop_lt hi', wrap_succ (by omega)]
        generalize a.getD i default = x
        generalize b.getD i default = y
        by_cases hx : cR x y = 0
        · have e : (cR x y != 0) = false := by simp [hx]
          simp only [e, cond_false, lexc, hx, if_true]
          exact CompareSets_loop a b ha hb n (i + 1) (by omega) (by omega) (by omega)
        · have e : (cR x y != 0) = true := by simp [hx]
          simp only [e, cond_true, lexc, hx, if_false]
          exact ⟨_, rfl, .inl rfl⟩
      · simp only [Int.ofNat_eq_natCast, lt_nat, le0_nat, decide_true, decide_false, Bool.and_self, Bool.true_and, Bool.and_true, cond_true, cond_false, Int.toNat_natCast, eqR, eqR', Bool.not_true, Bool.not_false, bnd, hi, hi']
        refine ⟨_, rfl, .inr ⟨rfl, ?_⟩⟩
        rw [drop_lt hi, drop_ge hi', if_neg (by omega), if_pos (by omega)]; rfl
    · simp only [Int.ofNat_eq_natCast, lt_nat, le0_nat, decide_true, decide_false, Bool.and_self, Bool.true_and, Bool.and_true, cond_true, cond_false, Int.toNat_natCast, eqR, eqR', Bool.not_true, Bool.not_false, bnd, hi]
      refine ⟨_, rfl, .inr ⟨rfl, ?_⟩⟩
      rw [drop_ge hi]
      by_cases hi' : i < b.length
      · rw [drop_lt hi', if_pos (by omega)]; rfl
      · rw [drop_ge hi', if_neg (by omega), if_neg (by omega)]; rfl
theorem ref02_CompareSets_eq (a b : List RowID) (ha : a.length ≤ 1000000) (hb : b.length ≤ 1000000) : ref02_CompareSets a b = (true, cS a b) := by
  unfold ref02_CompareSets
  obtain ⟨r, h1, h2⟩ := CompareSets_loop a b ha hb (a.length + b.length + Int.toNat 0 + 1) 0 (by simp; omega) (by omega) (by omega)
  rw [show (0 : Int) = ((0 : Nat) : Int) from rfl] at *
  rw [h1]
  simp only [List.drop_zero] at h2
  rcases h2 with rfl | ⟨rfl, h2⟩
  · rfl
  · rw [h2]
    simp only [Int.ofNat_eq_natCast, lt_nat, le0_nat, decide_true, decide_false, Bool.and_self, Bool.true_and, Bool.and_true, cond_true, cond_false, Int.toNat_natCast, eqR, eqR', Bool.not_true, Bool.not_false, bnd, isL, getR, gt_nat]
    by_cases h3 : a.length < b.length
    · simp [h3]
    · by_cases h4 : b.length < a.length <;> simp [h3, h4]

theorem few_loop (l : List (List RowID)) (m : Nat) (hl : l.length ≤ 1000000) : ∀ (n i : Nat), l.length < i + n → i ≤ l.length → ref02_Few_L4 n l m i = (true, if (l.drop i).all (fun s => decide (s.length ≤ m)) then .inr () else .inl false)
  | 0, i, h, h2 => by omega
  | n + 1, i, h, h2 => by
    rw [ref02_Few_L4]
    by_cases hi : i < l.length
    · simp only [Int.ofNat_eq_natCast, lt_nat, le0_nat, decide_true, decide_false, Bool.and_self, Bool.true_and, Bool.and_true, cond_true, cond_false, Int.toNat_natCast, eqR, eqR', Bool.not_true, Bool.not_false, bnd, hi, gt_nat]
      rw [drop_lt hi, wrap_succ (by omega), few_loop l m hl n (i + 1) (by omega) (by omega)]
      generalize l.getD i default = x
      by_cases hx : x.length ≤ m
      · have : ¬ m < x.length := by omega
        simp [hx, this]
      · have : m < x.length := by omega
        simp [hx, this]
    · simp only [Int.ofNat_eq_natCast, lt_nat, le0_nat, decide_true, decide_false, Bool.and_self, Bool.true_and, Bool.and_true, cond_true, cond_false, Int.toNat_natCast, eqR, eqR', Bool.not_true, Bool.not_false, bnd, hi, drop_ge hi]; rfl
theorem ref02_Few_eq (l : List (List RowID)) (k m : Nat) (hk : k ≤ 1000) : ref02_Few l k m = (true, decide (l.length ≤ k) && l.all fun s => decide (s.length ≤ m)) := by
  unfold ref02_Few
  simp only [Int.ofNat_eq_natCast, gt_nat]
  by_cases h : k < l.length
  · have : ¬ l.length ≤ k := by omega
    simp [h, this]
  · have h' : l.length ≤ k := by omega
    simp only [h, h', decide_false, cond_false, decide_true, Bool.true_and]
    rw [show (0 : Int) = ((0 : Nat) : Int) from rfl, few_loop l m (by omega) _ 0 (by simp; omega) (by omega)]
    simp only [List.drop_zero]
    cases l.all fun s => decide (s.length ≤ m) <;> rfl

/-- Each with the one before it. -/
def chain {α : Type} (c : α → α → Int) : α → List α → Bool
  | _, [] => true
  | x, y :: r => decide (c x y < 0) && chain c y r
theorem chain_iff {α : Type} {c : α → α → Int} (h : Ord3 c) : ∀ (l : List α) (x : α), chain c x l = true ↔ SAsc c (x :: l)
  | [], x => by simp [chain]
  | y :: r, x => by
    simp only [chain, Bool.and_eq_true, decide_eq_true_eq, chain_iff h r y]
    constructor
    · rintro ⟨h1, h2⟩
      refine List.pairwise_cons.2 ⟨fun z hz => ?_, h2⟩
      rcases List.mem_cons.1 hz with rfl | hz
      · exact h1
      · exact h.trans _ _ _ h1 ((List.pairwise_cons.1 h2).1 z hz)
    · intro h1
      exact ⟨(List.pairwise_cons.1 h1).1 y (by simp), (List.pairwise_cons.1 h1).2⟩
theorem IsSet_loop (l : List RowID) (hl : l.length ≤ 1000000) : ∀ (n i : Nat), l.length < i + n → 0 < i → i ≤ l.length → ref02_IsSet_L2 n l i = (true, if chain cR (l.getD (i - 1) default) (l.drop i) then .inr () else .inl false)
  | 0, i, h, h0, h2 => by omega
  | n + 1, i, h, h0, h2 => by
    rw [ref02_IsSet_L2]
    by_cases hi : i < l.length
    · have hi1 : i - 1 < l.length := by omega
      rw [wrap_pred h0 (by omega)]
      simp only [Int.ofNat_eq_natCast, lt_nat, le0_nat, decide_true, decide_false, Bool.and_self, Bool.true_and, Bool.and_true, cond_true, cond_false, Int.toNat_natCast, eqR, eqR', Bool.not_true, Bool.not_false, bnd, hi, hi1, ref02_Compare_eq]
      rw [drop_lt hi, wrap_succ (by omega), IsSet_loop l hl n (i + 1) (by omega) (by omega) (by omega)]
      simp only [Nat.add_sub_cancel]
      generalize l.getD i default = x
      generalize l.getD (i - 1) default = y
      by_cases hx : cR y x < 0
      · have h3 : ¬ cR y x ≥ 0 := by omega
        simp [chain, hx, h3]
      · have h3 : cR y x ≥ 0 := by omega
        simp [chain, hx, h3]
    · simp only [Int.ofNat_eq_natCast, lt_nat, le0_nat, decide_true, decide_false, Bool.and_self, Bool.true_and, Bool.and_true, cond_true, cond_false, Int.toNat_natCast, eqR, eqR', Bool.not_true, Bool.not_false, bnd, hi, drop_ge hi]; rfl
theorem ref02_IsSet_eq (l : List RowID) (hl : l.length ≤ 1000000) : ∃ b, ref02_IsSet l = (true, b) ∧ (b = true ↔ SAsc cR l) := by
  unfold ref02_IsSet
  cases l with
  | nil => exact ⟨true, rfl, by simp⟩
  | cons x r =>
    rw [show (1 : Int) = ((1 : Nat) : Int) from rfl, IsSet_loop (x :: r) hl _ 1 (by simp; omega) (by omega) (by simp)]
    simp only [Nat.sub_self, List.getD_cons_zero, List.drop_succ_cons, List.drop_zero]
    refine ⟨chain cR x r, ?_, chain_iff cR_ord r x⟩
    cases chain cR x r <;> rfl
theorem IsFamily_loop (l : List (List RowID)) (hl : l.length ≤ 1000000) (hle : ∀ s ∈ l, s.length ≤ 1000000) (hs : ∀ s ∈ l, SAsc cR s) : ∀ (n i : Nat), l.length < i + n → i ≤ l.length →
    ref02_IsFamily_L2 n l i = (true, if (if i = 0 then (match l with | [] => true | x :: r => chain cS x r) else chain cS (l.getD (i - 1) default) (l.drop i)) then .inr () else .inl false)
  | 0, i, h, h2 => by omega
  | n + 1, i, h, h2 => by
    rw [ref02_IsFamily_L2]
    by_cases hi : i < l.length
    · obtain ⟨b, hb, hb'⟩ := ref02_IsSet_eq (l.getD i default) (hle _ (getD_mem hi))
      have hb2 := hb'.2 (hs _ (getD_mem hi))
      subst hb2
      simp only [Int.ofNat_eq_natCast, lt_nat, le0_nat, decide_true, decide_false, Bool.and_self, Bool.true_and, Bool.and_true, cond_true, cond_false, Int.toNat_natCast, eqR, eqR', Bool.not_true, Bool.not_false, bnd, hi, hb]
      by_cases h0 : i = 0
      · subst h0
        rw [wrap_succ (by omega), IsFamily_loop l hl hle hs n 1 (by omega) (by omega)]
        cases l with
        | nil => simp at hi
        | cons x r => simp
      · have hi1 : i - 1 < l.length := by omega
        have h0' : decide ((i : Int) > 0) = true := by simp; omega
        rw [wrap_pred (by omega) (by omega)]
        simp only [Int.ofNat_eq_natCast, lt_nat, le0_nat, decide_true, decide_false, Bool.and_self, Bool.true_and, Bool.and_true, cond_true, cond_false, Int.toNat_natCast, eqR, eqR', Bool.not_true, Bool.not_false, bnd, hi, hi1, h0', ref02_CompareSets_eq _ _ (hle _ (getD_mem hi1)) (hle _ (getD_mem hi)), h0, if_false]
        rw [drop_lt hi, wrap_succ (by omega), IsFamily_loop l hl hle hs n (i + 1) (by omega) (by omega)]
        simp only [Nat.add_sub_cancel, Nat.succ_ne_zero, if_false]
        generalize l.getD i default = x
        generalize l.getD (i - 1) default = y
        by_cases hx : cS y x < 0
        · have h3 : ¬ cS y x ≥ 0 := by omega
          simp [chain, hx, h3]
        · have h3 : cS y x ≥ 0 := by omega
          simp [chain, hx, h3]
    · simp only [Int.ofNat_eq_natCast, lt_nat, le0_nat, decide_true, decide_false, Bool.and_self, Bool.true_and, Bool.and_true, cond_true, cond_false, Int.toNat_natCast, eqR, eqR', Bool.not_true, Bool.not_false, bnd, hi, drop_ge hi]
      by_cases h0 : i = 0
      · subst h0
        have : l = [] := List.eq_nil_of_length_eq_zero (by omega)
        subst this; rfl
      · simp [h0, chain]
/-- A family answers true. -/
theorem ref02_IsFamily_of (l : List (List RowID)) (hl : l.length ≤ 1000000) (hle : ∀ s ∈ l, s.length ≤ 1000000) (hs : ∀ s ∈ l, SAsc cR s) (h : SAsc cS l) : ref02_IsFamily l = (true, true) := by
  unfold ref02_IsFamily
  rw [show (0 : Int) = ((0 : Nat) : Int) from rfl, IsFamily_loop l hl hle hs _ 0 (by simp) (by omega)]
  cases l with
  | nil => rfl
  | cons x r =>
    simp only [if_true, (chain_iff cS_ord r x).2 h]; rfl
end Go.Proofs.YteopikhooiallaaDoor
/- What the printed functions compute: the program's functions on sets of row identifiers. -/
set_option autoImplicit false
set_option linter.unusedVariables false
set_option linter.unusedSimpArgs false
namespace Go.Proofs.YteopikhooiallaaDoor
open Go Go.Ab

theorem cmp_Compare_int_eq (x y : Int) : cmp_Compare_int x y = (true, if x < y then -1 else if y < x then 1 else 0) := by
  unfold cmp_Compare_int cmp_isNaN_int
  by_cases h1 : x < y
  · simp [h1]
  · by_cases h2 : y < x <;> simp [h1, h2]
/-- The first that is not zero. -/
def firstNZ : List Int → Int
  | [] => 0
  | x :: r => if x = 0 then firstNZ r else x
theorem Or_loop (l : List Int) (hl : l.length ≤ 1000000) : ∀ (n i : Nat), l.length < i + n → i ≤ l.length → ∃ r, cmp_Or_int_L3 n 0 l l.length i = (true, r) ∧ (r = .inl (firstNZ (l.drop i)) ∨ (r = .inr 0 ∧ firstNZ (l.drop i) = 0))
  | 0, i, h, h2 => by omega
  | n + 1, i, h, h2 => by
    rw [cmp_Or_int_L3]
    by_cases hi : i < l.length
    · simp only [Int.ofNat_eq_natCast, lt_nat, le0_nat, decide_true, decide_false, Bool.and_self, Bool.true_and, Bool.and_true, cond_true, cond_false, Int.toNat_natCast, eqR, eqR', Bool.not_true, Bool.not_false, bnd, hi]
      obtain ⟨r, h1, h3⟩ := Or_loop l hl n (i + 1) (by omega) (by omega)
      rw [drop_lt hi, wrap_succ (by omega), h1]
      generalize l.getD i default = x
      by_cases hx : x = 0
      · have e : (x != 0) = false := by simp [hx]
        simp only [e, cond_false, firstNZ, hx, if_true]
        exact ⟨r, rfl, h3⟩
      · have e : (x != 0) = true := by simp [hx]
        simp only [e, cond_true, firstNZ, hx, if_false]
        exact ⟨_, rfl, .inl rfl⟩
    · simp only [Int.ofNat_eq_natCast, lt_nat, le0_nat, decide_true, decide_false, Bool.and_self, Bool.true_and, Bool.and_true, cond_true, cond_false, Int.toNat_natCast, eqR, eqR', Bool.not_true, Bool.not_false, bnd, hi, drop_ge hi]
      exact ⟨_, rfl, .inr ⟨rfl, rfl⟩⟩
theorem cmp_Or_int_eq (l : List Int) (hl : l.length ≤ 1000000) : cmp_Or_int l = (true, firstNZ l) := by
  unfold cmp_Or_int
  obtain ⟨r, h1, h2⟩ := Or_loop l hl (Int.toNat 0 + l.length + (Int.ofNat l.length).toNat + Int.toNat 0 + 1) 0 (by simp; omega) (by omega)
  rw [show Int.ofNat l.length = (l.length : Int) from rfl] at *
  rw [show ((0 : Nat) : Int) = (0 : Int) from rfl] at h1
  rw [h1]
  rw [List.drop_zero] at h2
  rcases h2 with rfl | ⟨rfl, h2⟩
  · rfl
  · rw [h2]; rfl
theorem rowset_Compare_eq (a b : RowID) : rowset_Compare a b = (true, cR a b) := by
  unfold rowset_Compare
  simp only [cmp_Compare_int_eq, bnd, cond_true]
  rw [cmp_Or_int_eq _ (by simp)]
  simp only [cond_true, cR, firstNZ]
  congr 1
  repeat' split
  all_goals first | rfl | omega

theorem CompareFunc_loop (a b : List RowID) (ha : a.length ≤ 1000000) (hb : b.length ≤ 1000000) : ∀ (n i : Nat), a.length < i + n → i ≤ a.length → i ≤ b.length →
    ∃ r, slices_CompareFunc_Lapi_RowID_Lapi_RowID_api_RowID_api_RowID_L2 n a b a a.length i = (true, r) ∧ ((r = .inl (cS (a.drop i) (b.drop i))) ∨ (r = .inr (a, b) ∧ cS (a.drop i) (b.drop i) = if a.length < b.length then -1 else 0))
  | 0, i, h, h2, h3 => by omega
  | n + 1, i, h, h2, h3 => by
    rw [slices_CompareFunc_Lapi_RowID_Lapi_RowID_api_RowID_api_RowID_L2]
    by_cases hi : i < a.length
    · by_cases hi' : i < b.length
      · have hg : ¬ b.length ≤ i := by omega
        simp only [Int.ofNat_eq_natCast, lt_nat, le0_nat, decide_true, decide_false, Bool.and_self, Bool.true_and, Bool.and_true, cond_true, cond_false, Int.toNat_natCast, eqR, eqR', Bool.not_true, Bool.not_false, bnd, hi, hi', ge_nat, hg, rowset_Compare_eq]
        rw [drop_lt hi, drop_lt hi', wrap_succ (by omega)]
        generalize a.getD i default = x
        generalize b.getD i default = y
        by_cases hx : cR x y = 0
        · have e : (cR x y != 0) = false := by simp [hx]
          simp only [e, cond_false, lexc, hx, if_true]
          exact CompareFunc_loop a b ha hb n (i + 1) (by omega) (by omega) (by omega)
        · have e : (cR x y != 0) = true := by simp [hx]
          simp only [e, cond_true, lexc, hx, if_false]
          exact ⟨_, rfl, .inl rfl⟩
      · have hg : b.length ≤ i := by omega
        simp only [Int.ofNat_eq_natCast, lt_nat, le0_nat, decide_true, decide_false, Bool.and_self, Bool.true_and, Bool.and_true, cond_true, cond_false, Int.toNat_natCast, eqR, eqR', Bool.not_true, Bool.not_false, bnd, hi, ge_nat, hg]
        refine ⟨_, rfl, .inl ?_⟩
        rw [drop_lt hi, drop_ge hi']; rfl
    · simp only [Int.ofNat_eq_natCast, lt_nat, le0_nat, decide_true, decide_false, Bool.and_self, Bool.true_and, Bool.and_true, cond_true, cond_false, Int.toNat_natCast, eqR, eqR', Bool.not_true, Bool.not_false, bnd, hi]
      refine ⟨_, rfl, .inr ⟨rfl, ?_⟩⟩
      rw [drop_ge hi]
      by_cases hi' : i < b.length
      · rw [drop_lt hi', if_pos (by omega)]; rfl
      · rw [drop_ge hi', if_neg (by omega)]; rfl
theorem rowset_compareSets_eq (a b : List RowID) (ha : a.length ≤ 1000000) (hb : b.length ≤ 1000000) : rowset_compareSets a b = (true, cS a b) := by
  unfold rowset_compareSets
  have h : slices_CompareFunc_Lapi_RowID_Lapi_RowID_api_RowID_api_RowID a b = (true, cS a b) := by
    unfold slices_CompareFunc_Lapi_RowID_Lapi_RowID_api_RowID_api_RowID
    obtain ⟨r, h1, h2⟩ := CompareFunc_loop a b ha hb (a.length + b.length + a.length + (Int.ofNat a.length).toNat + Int.toNat 0 + 1) 0 (by simp; omega) (by omega) (by omega)
    rw [show (0 : Int) = ((0 : Nat) : Int) from rfl] at *
    rw [show Int.ofNat a.length = (a.length : Int) from rfl] at *
    rw [h1]
    simp only [List.drop_zero] at h2
    rcases h2 with rfl | ⟨rfl, h2⟩
    · rfl
    · rw [h2]
      simp only [Int.ofNat_eq_natCast, lt_nat, le0_nat, decide_true, decide_false, Bool.and_self, Bool.true_and, Bool.and_true, cond_true, cond_false, Int.toNat_natCast, eqR, eqR', Bool.not_true, Bool.not_false, bnd, isL, getR]
      by_cases h3 : a.length < b.length <;> simp [h3]
  rw [h]; rfl

theorem Equal_loop (a b : List RowID) (ha : a.length ≤ 1000000) (hab : a.length = b.length) : ∀ (n i : Nat), a.length < i + n → i ≤ a.length → slices_Equal_Lapi_RowID_api_RowID_L4 n a b a.length i = (true, if a.drop i = b.drop i then .inr () else .inl false)
  | 0, i, h, h2 => by omega
  | n + 1, i, h, h2 => by
    rw [slices_Equal_Lapi_RowID_api_RowID_L4]
    by_cases hi : i < a.length
    · have hi' : i < b.length := by omega
      simp only [Int.ofNat_eq_natCast, lt_nat, le0_nat, decide_true, decide_false, Bool.and_self, Bool.true_and, Bool.and_true, cond_true, cond_false, Int.toNat_natCast, eqR, eqR', Bool.not_true, Bool.not_false, bnd, hi, hi']
      rw [drop_lt hi, drop_lt hi', wrap_succ (by omega), Equal_loop a b ha hab n (i + 1) (by omega) (by omega)]
      generalize a.getD i default = x
      generalize b.getD i default = y
      by_cases hx : x = y <;> simp [hx]
    · have hi' : ¬ i < b.length := by omega
      simp only [Int.ofNat_eq_natCast, lt_nat, le0_nat, decide_true, decide_false, Bool.and_self, Bool.true_and, Bool.and_true, cond_true, cond_false, Int.toNat_natCast, eqR, eqR', Bool.not_true, Bool.not_false, bnd, hi, drop_ge hi, drop_ge hi']; simp
theorem slices_Equal_eq (a b : List RowID) (ha : a.length ≤ 1000000) : slices_Equal_Lapi_RowID_api_RowID a b = (true, decide (a = b)) := by
  unfold slices_Equal_Lapi_RowID_api_RowID
  simp only [Int.ofNat_eq_natCast, bne_nat]
  by_cases hab : a.length = b.length
  · simp only [hab, ne_eq, not_true_eq_false, decide_false, cond_false]
    rw [show (0 : Int) = ((0 : Nat) : Int) from rfl, ← hab, Equal_loop a b ha hab _ 0 (by simp; omega) (by omega)]
    by_cases h : a = b <;> simp [h, isL, getL, bnd]
  · have : a ≠ b := fun e => hab (by rw [e])
    simp [hab, this]
theorem rowset_Family_c1_eq (a b : List RowID) (ha : a.length ≤ 1000000) : rowset_Family_c1 a b = (true, decide (a = b)) := by
  unfold rowset_Family_c1
  rw [slices_Equal_eq a b ha]; rfl

theorem Index_loop (l : List RowID) (v : RowID) (hl : l.length ≤ 1000000) : ∀ (n i : Nat), l.length < i + n → i ≤ l.length → ∃ r, slices_Index_Lapi_RowID_api_RowID_L2 n l l.length i v = (true, r) ∧ ((v ∈ l.drop i ∧ ∃ j : Nat, r = .inl (j : Int)) ∨ (v ∉ l.drop i ∧ r = .inr ()))
  | 0, i, h, h2 => by omega
  | n + 1, i, h, h2 => by
    rw [slices_Index_Lapi_RowID_api_RowID_L2]
    by_cases hi : i < l.length
    · simp only [Int.ofNat_eq_natCast, lt_nat, le0_nat, decide_true, decide_false, Bool.and_self, Bool.true_and, Bool.and_true, cond_true, cond_false, Int.toNat_natCast, eqR, eqR', Bool.not_true, Bool.not_false, bnd, hi]
      obtain ⟨r, h1, h3⟩ := Index_loop l v hl n (i + 1) (by omega) (by omega)
      rw [drop_lt hi, wrap_succ (by omega), h1]
      generalize l.getD i default = x
      by_cases hx : v = x
      · subst hx
        exact ⟨.inl (i : Int), by simp, .inl ⟨by simp, i, rfl⟩⟩
      · refine ⟨r, by simp [hx], ?_⟩
        simpa [hx] using h3
    · simp only [Int.ofNat_eq_natCast, lt_nat, le0_nat, decide_true, decide_false, Bool.and_self, Bool.true_and, Bool.and_true, cond_true, cond_false, Int.toNat_natCast, eqR, eqR', Bool.not_true, Bool.not_false, bnd, hi, drop_ge hi]
      exact ⟨_, rfl, .inr ⟨by simp, rfl⟩⟩
theorem slices_Contains_eq (l : List RowID) (v : RowID) (hl : l.length ≤ 1000000) : slices_Contains_Lapi_RowID_api_RowID l v = (true, decide (v ∈ l)) := by
  have h : ∃ k : Int, slices_Index_Lapi_RowID_api_RowID l v = (true, k) ∧ (0 ≤ k ↔ v ∈ l) := by
    unfold slices_Index_Lapi_RowID_api_RowID
    obtain ⟨r, h1, h2⟩ := Index_loop l v hl (l.length + (Int.ofNat l.length).toNat + Int.toNat 0 + 1) 0 (by simp; omega) (by omega)
    rw [show (0 : Int) = ((0 : Nat) : Int) from rfl] at *
    rw [show Int.ofNat l.length = (l.length : Int) from rfl] at *
    rw [h1]
    rw [List.drop_zero] at h2
    rcases h2 with ⟨h2, j, rfl⟩ | ⟨h2, rfl⟩
    · exact ⟨(j : Int), rfl, by simp [h2]⟩
    · exact ⟨-1, rfl, by simp [h2]⟩
  obtain ⟨k, h1, h2⟩ := h
  unfold slices_Contains_Lapi_RowID_api_RowID
  rw [h1]
  simp only [bnd, cond_true]
  by_cases h3 : v ∈ l
  · have := h2.2 h3; simp [h3, this]
  · have : ¬ 0 ≤ k := fun h => h3 (h2.1 h)
    simp [h3]; omega
theorem rowset_Minus_c1_eq (x : RowID) (b : List RowID) (hb : b.length ≤ 1000000) : rowset_Minus_c1 x b = (true, decide (x ∈ b)) := by
  unfold rowset_Minus_c1
  rw [slices_Contains_eq b x hb]; rfl

theorem IndexFunc_loop (l b : List RowID) (hl : l.length ≤ 1000000) (hb : b.length ≤ 1000000) : ∀ (n i : Nat), l.length < i + n → i ≤ l.length →
    ∃ r, slices_IndexFunc_Lapi_RowID_api_RowID_L2 n l b l.length i = (true, r) ∧ ((∃ j : Nat, r = .inl (j : Int) ∧ i ≤ j ∧ j < l.length ∧ l.getD j default ∈ b ∧ l.drop i = (l.take j).drop i ++ l.drop j ∧ ∀ x ∈ (l.take j).drop i, x ∉ b) ∨ (r = .inr () ∧ ∀ x ∈ l.drop i, x ∉ b))
  | 0, i, h, h2 => by omega
  | n + 1, i, h, h2 => by
    rw [slices_IndexFunc_Lapi_RowID_api_RowID_L2]
    by_cases hi : i < l.length
    · simp only [Int.ofNat_eq_natCast, lt_nat, le0_nat, decide_true, decide_false, Bool.and_self, Bool.true_and, Bool.and_true, cond_true, cond_false, Int.toNat_natCast, eqR, eqR', Bool.not_true, Bool.not_false, bnd, hi, rowset_Minus_c1_eq _ b hb]
      obtain ⟨r, h1, h3⟩ := IndexFunc_loop l b hl hb n (i + 1) (by omega) (by omega)
      rw [wrap_succ (by omega), h1]
      by_cases hx : l.getD i default ∈ b
      · refine ⟨.inl (i : Int), by simp only [hx, decide_true, cond_true], .inl ⟨i, rfl, Nat.le_refl _, hi, hx, ?_, ?_⟩⟩
        · rw [List.drop_take, Nat.sub_self]; simp
        · rw [List.drop_take, Nat.sub_self]; simp
      · refine ⟨r, by simp only [hx, decide_false, cond_false], ?_⟩
        rcases h3 with ⟨j, rfl, h4, h5, h6, h7, h8⟩ | ⟨rfl, h4⟩
        · have e : (l.take j).drop i = l.getD i default :: (l.take j).drop (i + 1) := by
            rw [List.drop_take, List.drop_take, drop_lt hi, show j - i = (j - (i + 1)) + 1 by omega, List.take_succ_cons]
          refine .inl ⟨j, rfl, by omega, h5, h6, ?_, ?_⟩
          · rw [drop_lt hi, h7, e]; rfl
          · rw [e]
            intro x hx'
            rcases List.mem_cons.1 hx' with rfl | hx'
            · exact hx
            · exact h8 x hx'
        · refine .inr ⟨rfl, ?_⟩
          rw [drop_lt hi]
          intro x hx'
          rcases List.mem_cons.1 hx' with rfl | hx'
          · exact hx
          · exact h4 x hx'
    · simp only [Int.ofNat_eq_natCast, lt_nat, le0_nat, decide_true, decide_false, Bool.and_self, Bool.true_and, Bool.and_true, cond_true, cond_false, Int.toNat_natCast, eqR, eqR', Bool.not_true, Bool.not_false, bnd, hi]
      exact ⟨_, rfl, .inr ⟨rfl, by rw [drop_ge hi]; simp⟩⟩
theorem slices_IndexFunc_eq (l b : List RowID) (hl : l.length ≤ 1000000) (hb : b.length ≤ 1000000) :
    (∃ j : Nat, slices_IndexFunc_Lapi_RowID_api_RowID l b = (true, (j : Int)) ∧ j < l.length ∧ l.getD j default ∈ b ∧ ∀ x ∈ l.take j, x ∉ b) ∨ (slices_IndexFunc_Lapi_RowID_api_RowID l b = (true, -1) ∧ ∀ x ∈ l, x ∉ b) := by
  unfold slices_IndexFunc_Lapi_RowID_api_RowID
  obtain ⟨r, h1, h2⟩ := IndexFunc_loop l b hl hb (l.length + b.length + (Int.ofNat l.length).toNat + Int.toNat 0 + 1) 0 (by simp; omega) (by omega)
  rw [show (0 : Int) = ((0 : Nat) : Int) from rfl] at *
  rw [show Int.ofNat l.length = (l.length : Int) from rfl] at *
  rw [h1]
  simp only [List.drop_zero] at h2
  rcases h2 with ⟨j, rfl, _, h3, h4, _, h5⟩ | ⟨rfl, h3⟩
  · exact .inl ⟨j, rfl, h3, h4, h5⟩
  · exact .inr ⟨rfl, h3⟩

theorem DeleteFunc_loop (b : List RowID) (hb : b.length ≤ 1000000) : ∀ (n i j : Nat) (s : List RowID), s.length ≤ 1000000 → s.length < j + n → j ≤ s.length → i ≤ j →
    ∃ (i' : Nat) (s' : List RowID), slices_DeleteFunc_Lapi_RowID_api_RowID_L5 n b i j s = (true, ((i' : Int), s')) ∧ s'.length = s.length ∧ i' ≤ s.length ∧ s'.take i' = s.take i ++ (s.drop j).filter fun x => !decide (x ∈ b)
  | 0, i, j, s, hs, h, h2, h3 => by omega
  | n + 1, i, j, s, hs, h, h2, h3 => by
    rw [slices_DeleteFunc_Lapi_RowID_api_RowID_L5]
    by_cases hj : j < s.length
    · have hi : i < s.length := by omega
      simp only [Int.ofNat_eq_natCast, lt_nat, le0_nat, decide_true, decide_false, Bool.and_self, Bool.true_and, Bool.and_true, cond_true, cond_false, Int.toNat_natCast, eqR, eqR', Bool.not_true, Bool.not_false, bnd, hj, hi, rowset_Minus_c1_eq _ b hb]
      rw [drop_lt hj]
      by_cases hx : s.getD j default ∈ b
      · simp only [Int.ofNat_eq_natCast, lt_nat, le0_nat, decide_true, decide_false, Bool.and_self, Bool.true_and, Bool.and_true, cond_true, cond_false, Int.toNat_natCast, eqR, eqR', Bool.not_true, Bool.not_false, bnd, hx, List.filter_cons, Bool.false_eq_true, if_false]
        rw [wrap_succ (by omega)]
        exact DeleteFunc_loop b hb n i (j + 1) s hs (by omega) (by omega) (by omega)
      · simp only [Int.ofNat_eq_natCast, lt_nat, le0_nat, decide_true, decide_false, Bool.and_self, Bool.true_and, Bool.and_true, cond_true, cond_false, Int.toNat_natCast, eqR, eqR', Bool.not_true, Bool.not_false, bnd, hx, List.filter_cons, if_true]
        rw [wrap_succ (by omega), wrap_succ (by omega)]
        obtain ⟨i', s', h4, h5, h6, h7⟩ := DeleteFunc_loop b hb n (i + 1) (j + 1) (s.set i (s.getD j default)) (by simpa using hs) (by simp; omega) (by simp; omega) (by omega)
        refine ⟨i', s', h4, by simpa using h5, by simpa using h6, ?_⟩
        rw [h7, take_set_succ _ hi, drop_set_lt _ (by omega)]
        simp
    · simp only [Int.ofNat_eq_natCast, lt_nat, le0_nat, decide_true, decide_false, Bool.and_self, Bool.true_and, Bool.and_true, cond_true, cond_false, Int.toNat_natCast, eqR, eqR', Bool.not_true, Bool.not_false, bnd, hj]
      exact ⟨i, s, rfl, rfl, by omega, by rw [drop_ge hj]; simp⟩
theorem slices_DeleteFunc_eq (s b : List RowID) (hs : s.length ≤ 1000000) (hb : b.length ≤ 1000000) : slices_DeleteFunc_Lapi_RowID_api_RowID s b = (true, s.filter fun x => !decide (x ∈ b)) := by
  unfold slices_DeleteFunc_Lapi_RowID_api_RowID
  rcases slices_IndexFunc_eq s b hs hb with ⟨j, h1, h2, h3, h4⟩ | ⟨h1, h2⟩
  · rw [h1]
    have e : ((j : Int) == -1) = false := by simp
    simp only [bnd, cond_true, e, cond_false]
    rw [wrap_succ (by omega)]
    obtain ⟨i', s', h5, h6, h7, h8⟩ := DeleteFunc_loop b hb (b.length + (j : Int).toNat + ((j + 1 : Nat) : Int).toNat + s.length + 1) j (j + 1) s hs (by simp; omega) (by omega) (by omega)
    rw [h5]
    have h7' : i' ≤ s'.length := by omega
    have e2 : i' + (s'.length - i') ≤ s'.length := by omega
    have e3 : i' ≤ (List.take i' s' ++ List.replicate (s'.length - i') (RowID.mk 0 0) ++ List.drop (i' + (s'.length - i')) s').length := by simp; omega
    simp only [Int.ofNat_eq_natCast, Int.toNat_natCast, le0_nat, le_nat, h7', e2, e3, Nat.le_refl, decide_true, Bool.and_self, cond_true, Int.le_refl, Int.toNat_zero, Nat.sub_zero]
    rw [clear_take _ h7', h8]
    congr 1
    conv => rhs; rw [← List.take_append_drop j s, List.filter_append, drop_lt h2, List.filter_cons]
    simp only [h3, decide_true, Bool.not_true, Bool.false_eq_true, if_false]
    congr 1
    refine (List.filter_eq_self.2 fun x hx => ?_).symm
    simp [h4 x hx]
  · rw [h1]
    simp only [bnd, cond_true]
    have : s.filter (fun x => !decide (x ∈ b)) = s := List.filter_eq_self.2 fun x hx => by simp [h2 x hx]
    rw [this]; rfl

/-! ### compaction -/
abbrev pR (x y : RowID) : Bool := decide (x = y)
theorem Compact_in : ∀ (n k k0 m k2 : Nat) (s : List RowID) (x : RowID) (rest : List RowID), s.length ≤ 1000000 → k0 + m = s.length → 1 ≤ k2 → k2 ≤ m → k ≤ k0 + k2 - 1 → s.drop (k0 + k2 - 1) = x :: rest → m < k2 + n →
    ∃ (k' : Nat) (s' : List RowID), slices_Compact_Lapi_RowID_api_RowID_L9 n k k0 m k2 s = (true, ((k' : Int), s')) ∧ s'.length = s.length ∧ k' ≤ s.length ∧ s'.take k' = s.take k ++ adjFrom pR x rest
  | 0, k, k0, m, k2, s, x, rest, hs, hm, h1, h2, h3, hd, h4 => by omega
  | n + 1, k, k0, m, k2, s, x, rest, hs, hm, h1, h2, h3, hd, h4 => by
    rw [slices_Compact_Lapi_RowID_api_RowID_L9]
    by_cases hk : k2 < m
    · have hk1 : k2 - 1 < m := by omega
      have hkl : k < s.length := by omega
      rw [wrap_pred (by omega) (by omega)]
      simp only [Int.ofNat_eq_natCast, lt_nat, le0_nat, decide_true, decide_false, Bool.and_self, Bool.true_and, Bool.and_true, cond_true, cond_false, Int.toNat_natCast, eqR, eqR', Bool.not_true, Bool.not_false, bnd, hk, hk1, hkl]
      have e1 : k0 + k2 - 1 < s.length := by omega
      have e2 : k0 + k2 < s.length := by omega
      have e3 : k0 + (k2 - 1) = k0 + k2 - 1 := by omega
      rw [drop_lt e1, show k0 + k2 - 1 + 1 = k0 + k2 by omega] at hd
      obtain ⟨hx, hr⟩ := List.cons.inj hd
      rw [e3, hx, ← hr, drop_lt e2]
      generalize hy : s.getD (k0 + k2) default = y
      by_cases hxy : y = x
      · subst hxy
        simp only [decide_true, Bool.not_true, cond_false, adjFrom, pR, cond_true]
        rw [wrap_succ (by omega)]
        exact Compact_in n k k0 m (k2 + 1) s y _ hs hm (by omega) (by omega) (by omega) (by rw [show k0 + (k2 + 1) - 1 = k0 + k2 by omega, drop_lt e2, hy]) (by omega)
      · simp only [hxy, decide_false, Bool.not_false, cond_true, adjFrom, pR, cond_false]
        rw [wrap_succ (by omega), wrap_succ (by omega)]
        obtain ⟨k', s', h5, h6, h7, h8⟩ := Compact_in n (k + 1) k0 m (k2 + 1) (s.set k y) y (s.drop (k0 + k2 + 1)) (by simpa using hs) (by simpa using hm) (by omega) (by omega) (by omega)
          (by rw [show k0 + (k2 + 1) - 1 = k0 + k2 by omega, drop_set_lt _ (by omega), drop_lt e2, hy]) (by omega)
        refine ⟨k', s', h5, by simpa using h6, by simpa using h7, ?_⟩
        rw [h8, take_set_succ _ hkl]; simp
    · simp only [Int.ofNat_eq_natCast, lt_nat, le0_nat, decide_true, decide_false, Bool.and_self, Bool.true_and, Bool.and_true, cond_true, cond_false, Int.toNat_natCast, eqR, eqR', Bool.not_true, Bool.not_false, bnd, hk]
      refine ⟨k, s, rfl, rfl, by omega, ?_⟩
      have : rest = [] := by
        have h5 := congrArg List.length hd
        simp at h5
        exact List.eq_nil_of_length_eq_zero (by omega)
      rw [this]; simp [adjFrom]
theorem Compact_out : ∀ (n k : Nat) (s : List RowID), s.length ≤ 1000000 → 1 ≤ k → k ≤ s.length → s.length < k + n → adj pR s = s.take k ++ adjFrom pR (s.getD (k - 1) default) (s.drop k) →
    ∃ r, slices_Compact_Lapi_RowID_api_RowID_L4 n k s = (true, r) ∧ ((∃ (m : Nat) (s' : List RowID), r = .inl (m, s') ∧ s'.take m = adj pR s) ∨ (r = .inr s ∧ adj pR s = s))
  | 0, k, s, hs, h1, h2, h3, ha => by omega
  | n + 1, k, s, hs, h1, h2, h3, ha => by
    rw [slices_Compact_Lapi_RowID_api_RowID_L4]
    by_cases hk : k < s.length
    · have hk1 : k - 1 < s.length := by omega
      have hkl : k ≤ s.length := by omega
      rw [wrap_pred (by omega) (by omega)]
      simp only [Int.ofNat_eq_natCast, lt_nat, le_nat, le0_nat, hk, hk1, hkl, Nat.le_refl, decide_true, Bool.and_self, cond_true, Int.toNat_natCast, eqR]
      rw [drop_lt hk] at ha
      by_cases hxy : s.getD k default = s.getD (k - 1) default
      · simp only [hxy, decide_true, cond_true]
        obtain ⟨k', s', h5, h6, h7, h8⟩ := Compact_in (k + k + (s.length - k) + Int.toNat 1 + s.length + 1) k k (s.length - k) 1 s (s.getD k default) (s.drop (k + 1)) hs (by omega) (by omega) (by omega) (by omega)
          (by rw [show k + 1 - 1 = k by omega, drop_lt hk]) (by omega)
        rw [show (1 : Int) = ((1 : Nat) : Int) from rfl] at *
        rw [h5]
        have h7' : k' ≤ s'.length := by omega
        have e2 : k' + (s'.length - k') ≤ s'.length := by omega
        have e3 : k' ≤ (List.take k' s' ++ List.replicate (s'.length - k') (RowID.mk 0 0) ++ List.drop (k' + (s'.length - k')) s').length := by simp; omega
        simp only [bnd, Int.ofNat_eq_natCast, Int.toNat_natCast, le0_nat, le_nat, h7', e2, e3, Nat.le_refl, decide_true, Bool.and_self, cond_true, Int.le_refl, Int.toNat_zero, Nat.sub_zero]
        refine ⟨_, rfl, .inl ⟨_, _, rfl, ?_⟩⟩
        rw [clear_take _ h7', h8, ha]
        simp only [adjFrom, pR, hxy, decide_true, cond_true]
      · simp only [hxy, decide_false, cond_false]
        rw [wrap_succ (by omega)]
        refine Compact_out n (k + 1) s hs (by omega) (by omega) (by omega) ?_
        rw [ha, take_succ_getD hk]
        simp only [adjFrom, pR, hxy, decide_false, cond_false, Nat.add_sub_cancel]
        simp
    · simp only [Int.ofNat_eq_natCast, lt_nat, le0_nat, decide_true, decide_false, Bool.and_self, Bool.true_and, Bool.and_true, cond_true, cond_false, Int.toNat_natCast, eqR, eqR', Bool.not_true, Bool.not_false, bnd, hk]
      refine ⟨_, rfl, .inr ⟨rfl, ?_⟩⟩
      rw [ha, drop_ge hk, List.take_of_length_le (by omega)]
      simp [adjFrom]
theorem slices_Compact_eq (s : List RowID) (hs : s.length ≤ 1000000) : slices_Compact_Lapi_RowID_api_RowID s = (true, adj pR s) := by
  unfold slices_Compact_Lapi_RowID_api_RowID
  have h2 : decide (Int.ofNat s.length < 2) = decide (s.length < 2) := by simp; omega
  rw [h2]
  by_cases h : s.length < 2
  · simp only [h, decide_true, cond_true]
    match s, h with
    | [], _ => rfl
    | [x], _ => rfl
    | _ :: _ :: _, h => simp at h; omega
  · simp only [h, decide_false, cond_false]
    have ha : adj pR s = s.take 1 ++ adjFrom pR (s.getD (1 - 1) default) (s.drop 1) := by
      cases s with
      | nil => simp at h
      | cons x r => simp [adj]
    obtain ⟨r, h3, h4⟩ := Compact_out (Int.toNat 1 + s.length + 1) 1 s hs (by omega) (by omega) (by simp; omega) ha
    rw [show (1 : Int) = ((1 : Nat) : Int) from rfl] at *
    rw [h3]
    rcases h4 with ⟨m, s', rfl, h4⟩ | ⟨rfl, h4⟩
    · simp only [bnd, cond_true, isL, getL]; rw [h4]
    · simp only [bnd, cond_true, isL, getR, cond_false]; rw [h4]

abbrev pS (x y : List RowID) : Bool := decide (x = y)
theorem CompactFunc_in : ∀ (n k k0 m k2 : Nat) (s : List (List RowID)) (x : List RowID) (rest : List (List RowID)), (∀ z ∈ s, z.length ≤ 1000000) → s.length ≤ 1000000 → k0 + m = s.length → 1 ≤ k2 → k2 ≤ m → k ≤ k0 + k2 - 1 → s.drop (k0 + k2 - 1) = x :: rest → m < k2 + n →
    ∃ (k' : Nat) (s' : List (List RowID)), slices_CompactFunc_LLapi_RowID_Lapi_RowID_L9 n k k0 m k2 s = (true, ((k' : Int), s')) ∧ s'.length = s.length ∧ k' ≤ s.length ∧ s'.take k' = s.take k ++ adjFrom pS x rest
  | 0, k, k0, m, k2, s, x, rest, hz, hs, hm, h1, h2, h3, hd, h4 => by omega
  | n + 1, k, k0, m, k2, s, x, rest, hz, hs, hm, h1, h2, h3, hd, h4 => by
    rw [slices_CompactFunc_LLapi_RowID_Lapi_RowID_L9]
    by_cases hk : k2 < m
    · have hk1 : k2 - 1 < m := by omega
      have hkl : k < s.length := by omega
      have e1 : k0 + k2 - 1 < s.length := by omega
      have e2 : k0 + k2 < s.length := by omega
      have e3 : k0 + (k2 - 1) = k0 + k2 - 1 := by omega
      rw [wrap_pred (by omega) (by omega)]
      simp only [Int.ofNat_eq_natCast, lt_nat, le0_nat, decide_true, decide_false, Bool.and_self, Bool.true_and, Bool.and_true, cond_true, cond_false, Int.toNat_natCast, eqR, eqR', Bool.not_true, Bool.not_false, bnd, hk, hk1, hkl, rowset_Family_c1_eq _ _ (hz _ (getD_mem e2))]
      rw [drop_lt e1, show k0 + k2 - 1 + 1 = k0 + k2 by omega] at hd
      obtain ⟨hx, hr⟩ := List.cons.inj hd
      have hym := hz _ (getD_mem e2)
      rw [e3, hx, ← hr, drop_lt e2]
      generalize hy : s.getD (k0 + k2) default = y at hym
      by_cases hxy : y = x
      · subst hxy
        simp only [decide_true, Bool.not_true, cond_false, adjFrom, pS, cond_true]
        rw [wrap_succ (by omega)]
        exact CompactFunc_in n k k0 m (k2 + 1) s y _ hz hs hm (by omega) (by omega) (by omega) (by rw [show k0 + (k2 + 1) - 1 = k0 + k2 by omega, drop_lt e2, hy]) (by omega)
      · simp only [hxy, decide_false, Bool.not_false, cond_true, adjFrom, pS, cond_false]
        rw [wrap_succ (by omega), wrap_succ (by omega)]
        obtain ⟨k', s', h5, h6, h7, h8⟩ := CompactFunc_in n (k + 1) k0 m (k2 + 1) (s.set k y) y (s.drop (k0 + k2 + 1))
          (fun z hz' => by
            rcases List.mem_or_eq_of_mem_set hz' with h | h
            · exact hz z h
            · subst h; exact hym) (by simpa using hs) (by simpa using hm) (by omega) (by omega) (by omega)
          (by rw [show k0 + (k2 + 1) - 1 = k0 + k2 by omega, drop_set_lt _ (by omega), drop_lt e2, hy]) (by omega)
        refine ⟨k', s', h5, by simpa using h6, by simpa using h7, ?_⟩
        rw [h8, take_set_succ _ hkl]; simp
    · simp only [Int.ofNat_eq_natCast, lt_nat, le0_nat, decide_true, decide_false, Bool.and_self, Bool.true_and, Bool.and_true, cond_true, cond_false, Int.toNat_natCast, eqR, eqR', Bool.not_true, Bool.not_false, bnd, hk]
      refine ⟨k, s, rfl, rfl, by omega, ?_⟩
      have : rest = [] := by
        have h5 := congrArg List.length hd
        simp at h5
        exact List.eq_nil_of_length_eq_zero (by omega)
      rw [this]; simp [adjFrom]
theorem CompactFunc_out : ∀ (n k : Nat) (s : List (List RowID)), (∀ z ∈ s, z.length ≤ 1000000) → s.length ≤ 1000000 → 1 ≤ k → k ≤ s.length → s.length < k + n → adj pS s = s.take k ++ adjFrom pS (s.getD (k - 1) default) (s.drop k) →
    ∃ r, slices_CompactFunc_LLapi_RowID_Lapi_RowID_L4 n k s = (true, r) ∧ ((∃ (m : Nat) (s' : List (List RowID)), r = .inl (m, s') ∧ s'.take m = adj pS s) ∨ (r = .inr s ∧ adj pS s = s))
  | 0, k, s, hz, hs, h1, h2, h3, ha => by omega
  | n + 1, k, s, hz, hs, h1, h2, h3, ha => by
    rw [slices_CompactFunc_LLapi_RowID_Lapi_RowID_L4]
    by_cases hk : k < s.length
    · have hk1 : k - 1 < s.length := by omega
      have hkl : k ≤ s.length := by omega
      rw [wrap_pred (by omega) (by omega)]
      simp only [Int.ofNat_eq_natCast, lt_nat, le_nat, le0_nat, hk, hk1, hkl, Nat.le_refl, decide_true, Bool.and_self, cond_true, Int.toNat_natCast, rowset_Family_c1_eq _ _ (hz _ (getD_mem hk))]
      rw [drop_lt hk] at ha
      by_cases hxy : s.getD k default = s.getD (k - 1) default
      · simp only [hxy, decide_true, cond_true, bnd]
        obtain ⟨k', s', h5, h6, h7, h8⟩ := CompactFunc_in (k + k + (s.length - k) + Int.toNat 1 + s.length + 1) k k (s.length - k) 1 s (s.getD k default) (s.drop (k + 1)) hz hs (by omega) (by omega) (by omega) (by omega)
          (by rw [show k + 1 - 1 = k by omega, drop_lt hk]) (by omega)
        rw [show (1 : Int) = ((1 : Nat) : Int) from rfl] at *
        rw [h5]
        have h7' : k' ≤ s'.length := by omega
        have e2 : k' + (s'.length - k') ≤ s'.length := by omega
        have e3 : k' ≤ (List.take k' s' ++ List.replicate (s'.length - k') [] ++ List.drop (k' + (s'.length - k')) s').length := by simp; omega
        simp only [bnd, Int.ofNat_eq_natCast, Int.toNat_natCast, le0_nat, le_nat, h7', e2, e3, Nat.le_refl, decide_true, Bool.and_self, cond_true, Int.le_refl, Int.toNat_zero, Nat.sub_zero]
        refine ⟨_, rfl, .inl ⟨_, _, rfl, ?_⟩⟩
        rw [clear_take _ h7', h8, ha]
        simp only [adjFrom, pS, hxy, decide_true, cond_true]
      · simp only [hxy, decide_false, cond_false, bnd, cond_true]
        rw [wrap_succ (by omega)]
        refine CompactFunc_out n (k + 1) s hz hs (by omega) (by omega) (by omega) ?_
        rw [ha, take_succ_getD hk]
        simp only [adjFrom, pS, hxy, decide_false, cond_false, Nat.add_sub_cancel]
        simp
    · simp only [Int.ofNat_eq_natCast, lt_nat, le0_nat, decide_true, decide_false, Bool.and_self, Bool.true_and, Bool.and_true, cond_true, cond_false, Int.toNat_natCast, eqR, eqR', Bool.not_true, Bool.not_false, bnd, hk]
      refine ⟨_, rfl, .inr ⟨rfl, ?_⟩⟩
      rw [ha, drop_ge hk, List.take_of_length_le (by omega)]
      simp [adjFrom]
theorem slices_CompactFunc_eq (s : List (List RowID)) (hz : ∀ z ∈ s, z.length ≤ 1000000) (hs : s.length ≤ 1000000) : slices_CompactFunc_LLapi_RowID_Lapi_RowID s = (true, adj pS s) := by
  unfold slices_CompactFunc_LLapi_RowID_Lapi_RowID
  have h2 : decide (Int.ofNat s.length < 2) = decide (s.length < 2) := by simp; omega
  rw [h2]
  by_cases h : s.length < 2
  · simp only [h, decide_true, cond_true]
    match s, h with
    | [], _ => rfl
    | [x], _ => rfl
    | _ :: _ :: _, h => simp at h; omega
  · simp only [h, decide_false, cond_false]
    have ha : adj pS s = s.take 1 ++ adjFrom pS (s.getD (1 - 1) default) (s.drop 1) := by
      cases s with
      | nil => simp at h
      | cons x r => simp [adj]
    obtain ⟨r, h3, h4⟩ := CompactFunc_out (Int.toNat 1 + s.length + 1) 1 s hz hs (by omega) (by omega) (by simp; omega) ha
    rw [show (1 : Int) = ((1 : Nat) : Int) from rfl] at *
    rw [h3]
    rcases h4 with ⟨m, s', rfl, h4⟩ | ⟨rfl, h4⟩
    · simp only [bnd, cond_true, isL, getL]; rw [h4]
    · simp only [bnd, cond_true, isL, getR, cond_false]; rw [h4]

/-! ### sets -/
theorem slices_SortFunc_row (l : List RowID) (hl : l.length ≤ 1000000) : ∃ ok : SortOK (fun a b => rowset_Compare a b) l, slices_SortFunc_Lapi_RowID_api_RowID l = (true, isort (fun a b => rowset_Compare a b) l) := by
  have ok : SortOK (fun a b => rowset_Compare a b) l := sortOK_of cR_ord (by omega) fun x _ y _ => rowset_Compare_eq x y
  refine ⟨ok, ?_⟩
  unfold slices_SortFunc_Lapi_RowID_api_RowID sortFunc
  rw [decide_eq_true ok]
theorem rowset_Normalize_eq (l : List RowID) (hl : l.length ≤ 1000000) : rowset_Normalize l = (true, nR l) := by
  unfold rowset_Normalize slices_Clone_Lapi_RowID_api_RowID
  have e1 : l.length * 16 ≤ reach := reach_of (by omega) (by omega)
  obtain ⟨ok, h⟩ := slices_SortFunc_row l hl
  simp only [e1, decide_true, bnd, cond_true, h]
  rw [slices_Compact_eq _ (by rw [(isort_perm _ l).length_eq]; exact hl)]
  simp only [cond_true]
  rw [adj_isort cR_ord (fun x y => by simp) ok fun x _ y _ => by rw [rowset_Compare_eq]]
theorem rowset_Union_eq (a b : List RowID) (h : a.length + b.length ≤ 1000000) : rowset_Union a b = (true, nR (a ++ b)) := by
  unfold rowset_Union slices_Clone_Lapi_RowID_api_RowID
  have e1 : a.length * 16 ≤ reach := reach_of (by omega) (by omega)
  have e2 : (a.length + b.length) * 16 ≤ reach := reach_of (by omega) (by omega)
  simp only [e1, e2, decide_true, bnd, cond_true]
  rw [rowset_Normalize_eq (a ++ b) (by simp; omega)]; rfl
theorem rowset_Minus_eq (a b : List RowID) (ha : a.length ≤ 1000000) (hb : b.length ≤ 1000000) : rowset_Minus a b = (true, (nR a).filter fun x => !decide (x ∈ b)) := by
  unfold rowset_Minus
  have h1 : (nR a).length ≤ a.length := snorm_length cR_ord a
  rw [rowset_Normalize_eq a ha]
  simp only [bnd, cond_true]
  rw [slices_DeleteFunc_eq _ _ (by omega) hb]; rfl
theorem rowset_Subset_eq (a b : List RowID) (ha : a.length ≤ 1000000) (hb : b.length ≤ 1000000) : rowset_Subset a b = (true, a.all fun x => decide (x ∈ b)) := by
  unfold rowset_Subset
  rw [rowset_Minus_eq a b ha hb]
  simp only [bnd, cond_true]
  congr 1
  have : (Int.ofNat ((nR a).filter fun x => !decide (x ∈ b)).length == (0 : Int)) = decide (((nR a).filter fun x => !decide (x ∈ b)).length = 0) := beq_nat _ 0
  rw [this, Bool.eq_iff_iff, decide_eq_true_eq, List.length_eq_zero_iff, List.filter_eq_nil_iff, List.all_eq_true]
  constructor
  · intro h x hx
    have := h x ((snorm_mem cR_ord a x).2 hx)
    simpa using this
  · intro h x hx
    have := h x ((snorm_mem cR_ord a x).1 hx)
    simpa using this
end Go.Proofs.YteopikhooiallaaDoor
/- Functions of the program as plain functions, with their contracts. Printed by program. -/
set_option autoImplicit false
set_option linter.unusedVariables false
set_option linter.unusedSimpArgs false
namespace Go.Proofs.YteopikhooiallaaDoor
open Go Go.Ab
/-! ### lineage/lineagelaw02.RowsetOrder -/
noncomputable def law02_RowsetOrder_L10 : Nat → List RowID → Int → List RowID → Bool × (Bool ⊕ (List RowID × List RowID))
  | 0, _, _, _ => (false, .inl default)
  | n + 1, l, i, s => bif decide (i < Int.ofNat s.length) then bif decide ((0 : Int) ≤ IntKind.i64.wrap (i - (1 : Int))) && decide (IntKind.i64.wrap (i - (1 : Int)) < Int.ofNat s.length) then bif decide ((0 : Int) ≤ i) && decide (i < Int.ofNat s.length) then bnd (rowset_Compare (s.getD (IntKind.i64.wrap (i - (1 : Int))).toNat default) (s.getD i.toNat default)) (fun r0 => bif decide (r0 ≥ (0 : Int)) then (true, .inl false) else law02_RowsetOrder_L10 n l (IntKind.i64.wrap (i + (1 : Int))) s) (false, .inl default) else (false, .inl default) else (false, .inl default) else (true, .inr (l, s))
noncomputable def law02_RowsetOrder_tr10 (r : Bool ⊕ (List RowID × List RowID)) : LTree ty := .ite (isL r) (.done .ret [.lit (.bool (getL r))] []) (.done (.exit 0) [.sl 23 ((getR r).1), .own 356] [.arr 23 ((getR r).2) false])
noncomputable def law02_RowsetOrder_V10 : LL ty (List RowID × Unit × Int × Unit) := llCons (lSl 23) (llCons (lOwn 356) (llCons (lInt .i64) llNil))
noncomputable def law02_RowsetOrder_B10 : BL ty (List RowID × Unit) := bArr 23 false (bNil)
noncomputable def law02_RowsetOrder_sp10 : LSpec ty := mkLoop law02_RowsetOrder_V10 law02_RowsetOrder_B10 fun x y => ((law02_RowsetOrder_L10 (x.1.length + Int.toNat x.2.2.1 + y.1.length + 1) x.1 x.2.2.1 y.1).1, law02_RowsetOrder_tr10 (law02_RowsetOrder_L10 (x.1.length + Int.toNat x.2.2.1 + y.1.length + 1) x.1 x.2.2.1 y.1).2)
noncomputable def law02_RowsetOrder_cx : Cx ty := { base0 with nt := 89, spec := fun g => List.lookup g [(8, law02_awake_spec), (9, rowset_Compare_spec), (10, rowset_Normalize_spec), (11, rowset_Subset_spec)], io := fun g => (List.lookup g []).getD [], head := fun i => (List.lookup i [(10, [(3, .keep), (12, .keep), (13, .keep)])]).getD [], out := outOf [(10, 1, [(3, .keep), (12, .keep)]), (10, 0, [(8, .keep)])], loops := fun i => List.lookup i [(10, law02_RowsetOrder_sp10)] }
theorem law02_RowsetOrder_round10 {R : Type} (H : List (AV ty) → List (Blk ty) → Option R) (K : Ex → List (AV ty) → List (Blk ty) → Option R) (l : List RowID) (i : Int) (s : List RowID) : roundK law02_RowsetOrder_cx (lp (body Tryd.f3) 0) H K [.sl 23 l, .own 356, .lit (.int .i64 i)] [.arr 23 s false] = bif decide (i < Int.ofNat s.length) then bif decide ((0 : Int) ≤ IntKind.i64.wrap (i - (1 : Int))) && decide (IntKind.i64.wrap (i - (1 : Int)) < Int.ofNat s.length) then bif decide ((0 : Int) ≤ i) && decide (i < Int.ofNat s.length) then obnd (rowset_Compare (s.getD (IntKind.i64.wrap (i - (1 : Int))).toNat default) (s.getD i.toNat default)) (fun r1 => bif decide (r1 ≥ (0 : Int)) then K .ret [.lit (.bool false)] [] else H [.sl 23 l, .own 356, .lit (.int .i64 (IntKind.i64.wrap (i + (1 : Int))))] [.arr 23 s false]) else none else none else K (.exit 0) [.sl 23 l, .own 356] [.arr 23 s false] := by kernel_rfl
theorem law02_RowsetOrder_loop10 (R : Type) (K : Ex → List (AV ty) → List (Blk ty) → Option R) : ∀ (n : Nat) (l : List RowID) (i : Int) (s : List RowID), loopI law02_RowsetOrder_cx (lp (body Tryd.f3) 0) K n [.sl 23 l, .own 356, .lit (.int .i64 i)] [.arr 23 s false] = out (fun r => treeK K (law02_RowsetOrder_tr10 r)) (law02_RowsetOrder_L10 n l i s)
  | 0, _, _, _ => rfl
  | n + 1, l, i, s => by
    have ih := law02_RowsetOrder_loop10 R K n
    rw [law02_RowsetOrder_L10]
    exact (law02_RowsetOrder_round10 (loopI law02_RowsetOrder_cx (lp (body Tryd.f3) 0) K n) K l i s).trans (out_ite (out_ite (out_ite (out_ite (out_ite (rfl) (ih l (IntKind.i64.wrap (i + (1 : Int))) s)) (rfl)) (rfl)) (rfl)) (rfl))
theorem law02_RowsetOrder_to10 : LoopOK law02_RowsetOrder_cx (lp (body Tryd.f3) 0) := loopOK_of (id := 10) (sp := law02_RowsetOrder_sp10) (by kernel_rfl) (by kernel_rfl) (loopTo_of (V := law02_RowsetOrder_V10) (B := law02_RowsetOrder_B10) (L := fun n x y => law02_RowsetOrder_L10 n x.1 x.2.2.1 y.1) (tr := law02_RowsetOrder_tr10) (m := fun x y => x.1.length + Int.toNat x.2.2.1 + y.1.length + 1) fun R K n x y => law02_RowsetOrder_loop10 R K n x.1 x.2.2.1 y.1)
noncomputable def law02_RowsetOrder (a : RowID) (b : RowID) (c : RowID) (l : List RowID) : Bool × Bool := bnd (rowset_Compare a b) (fun r17 => bnd (rowset_Compare b c) (fun r16 => bnd (rowset_Compare a c) (fun r15 => bnd (rowset_Compare b a) (fun r14 => bif r14 != IntKind.i64.wrap ((0 : Int) - r17) then (true, false) else bif !(r17 == (0 : Int)) == (a.Table == b.Table && (a.Seq == b.Seq && true)) then (true, false) else bif decide (r17 < (-1 : Int)) then (true, false) else bif decide (r17 > (1 : Int)) then (true, false) else bif decide (r17 ≤ (0 : Int)) then bif decide (r16 ≤ (0 : Int)) then bif decide (r15 > (0 : Int)) then (true, false) else bif decide (Int.ofNat l.length > (20 : Int)) then (true, true) else bnd (rowset_Normalize l) (fun r5 => bnd (law02_RowsetOrder_L10 (l.length + Int.toNat (1 : Int) + r5.length + (1 : Nat)) l (1 : Int) r5) (fun r4 => bif isL r4 then (true, getL r4) else bnd (rowset_Subset (getR r4).fst (getR r4).snd) (fun r3 => bif r3 then bnd (rowset_Subset (getR r4).snd (getR r4).fst) (fun r2 => (true, r2)) (false, default) else (true, false)) (false, default)) (false, default)) (false, default) else bif decide (Int.ofNat l.length > (20 : Int)) then (true, true) else bnd (rowset_Normalize l) (fun r9 => bnd (law02_RowsetOrder_L10 (l.length + Int.toNat (1 : Int) + r9.length + (1 : Nat)) l (1 : Int) r9) (fun r8 => bif isL r8 then (true, getL r8) else bnd (rowset_Subset (getR r8).fst (getR r8).snd) (fun r7 => bif r7 then bnd (rowset_Subset (getR r8).snd (getR r8).fst) (fun r6 => (true, r6)) (false, default) else (true, false)) (false, default)) (false, default)) (false, default) else bif decide (Int.ofNat l.length > (20 : Int)) then (true, true) else bnd (rowset_Normalize l) (fun r13 => bnd (law02_RowsetOrder_L10 (l.length + Int.toNat (1 : Int) + r13.length + (1 : Nat)) l (1 : Int) r13) (fun r12 => bif isL r12 then (true, getL r12) else bnd (rowset_Subset (getR r12).fst (getR r12).snd) (fun r11 => bif r11 then bnd (rowset_Subset (getR r12).snd (getR r12).fst) (fun r10 => (true, r10)) (false, default) else (true, false)) (false, default)) (false, default)) (false, default)) (false, default)) (false, default)) (false, default)) (false, default)
noncomputable def law02_RowsetOrder_res (r : Bool) : ARes ty := ⟨[.pure (.lit (.bool r))], []⟩
theorem law02_RowsetOrder_run (a : RowID) (b : RowID) (c : RowID) (l : List RowID) : runFn law02_RowsetOrder_cx Tryd.f3 (body Tryd.f3) ⟨[.pure], []⟩ [.pure (.agg (base.enc 23 a)), .pure (.agg (base.enc 23 b)), .pure (.agg (base.enc 23 c)), .pure (.sl 23 l)] = out (fun r => some (law02_RowsetOrder_res r)) (law02_RowsetOrder a b c l) := by
  have h : runFn law02_RowsetOrder_cx Tryd.f3 (body Tryd.f3) ⟨[.pure], []⟩ [.pure (.agg (base.enc 23 a)), .pure (.agg (base.enc 23 b)), .pure (.agg (base.enc 23 c)), .pure (.sl 23 l)] = obnd (rowset_Compare a b) (fun r33 => obnd (rowset_Compare b c) (fun r32 => obnd (rowset_Compare a c) (fun r31 => obnd (rowset_Compare b a) (fun r30 => bif r30 != IntKind.i64.wrap ((0 : Int) - r33) then some ⟨[.pure (.lit (.bool false))], []⟩ else bif !(r33 == (0 : Int)) == (a.Table == b.Table && (a.Seq == b.Seq && true)) then some ⟨[.pure (.lit (.bool false))], []⟩ else bif decide (r33 < (-1 : Int)) then some ⟨[.pure (.lit (.bool false))], []⟩ else bif decide (r33 > (1 : Int)) then some ⟨[.pure (.lit (.bool false))], []⟩ else bif decide (r33 ≤ (0 : Int)) then bif decide (r32 ≤ (0 : Int)) then bif decide (r31 > (0 : Int)) then some ⟨[.pure (.lit (.bool false))], []⟩ else bif decide (Int.ofNat l.length > (20 : Int)) then some ⟨[.pure (.lit (.bool true))], []⟩ else obnd (rowset_Normalize l) (fun r21 => obnd (law02_RowsetOrder_L10 (l.length + Int.toNat (1 : Int) + r21.length + (1 : Nat)) l (1 : Int) r21) (fun r20 => bif isL r20 then some ⟨[.pure (.lit (.bool (getL r20)))], []⟩ else obnd (rowset_Subset (getR r20).fst (getR r20).snd) (fun r19 => bif r19 then obnd (rowset_Subset (getR r20).snd (getR r20).fst) (fun r18 => some ⟨[.pure (.lit (.bool (r18)))], []⟩) else some ⟨[.pure (.lit (.bool false))], []⟩))) else bif decide (Int.ofNat l.length > (20 : Int)) then some ⟨[.pure (.lit (.bool true))], []⟩ else obnd (rowset_Normalize l) (fun r25 => obnd (law02_RowsetOrder_L10 (l.length + Int.toNat (1 : Int) + r25.length + (1 : Nat)) l (1 : Int) r25) (fun r24 => bif isL r24 then some ⟨[.pure (.lit (.bool (getL r24)))], []⟩ else obnd (rowset_Subset (getR r24).fst (getR r24).snd) (fun r23 => bif r23 then obnd (rowset_Subset (getR r24).snd (getR r24).fst) (fun r22 => some ⟨[.pure (.lit (.bool (r22)))], []⟩) else some ⟨[.pure (.lit (.bool false))], []⟩))) else bif decide (Int.ofNat l.length > (20 : Int)) then some ⟨[.pure (.lit (.bool true))], []⟩ else obnd (rowset_Normalize l) (fun r29 => obnd (law02_RowsetOrder_L10 (l.length + Int.toNat (1 : Int) + r29.length + (1 : Nat)) l (1 : Int) r29) (fun r28 => bif isL r28 then some ⟨[.pure (.lit (.bool (getL r28)))], []⟩ else obnd (rowset_Subset (getR r28).fst (getR r28).snd) (fun r27 => bif r27 then obnd (rowset_Subset (getR r28).snd (getR r28).fst) (fun r26 => some ⟨[.pure (.lit (.bool (r26)))], []⟩) else some ⟨[.pure (.lit (.bool false))], []⟩))))))) := by kernel_rfl
  rw [law02_RowsetOrder]
  exact h.trans (out_ite (out_ite (out_ite (out_ite (out_ite (rfl) (out_ite (rfl) (out_ite (rfl) (out_ite (rfl) (out_ite (out_ite (out_ite (rfl) (out_ite (rfl) (out_ite (out_ite (out_ite (rfl) (out_ite (out_ite (out_ite (rfl) (rfl)) (rfl)) (rfl))) (rfl)) (rfl)))) (out_ite (rfl) (out_ite (out_ite (out_ite (rfl) (out_ite (out_ite (out_ite (rfl) (rfl)) (rfl)) (rfl))) (rfl)) (rfl)))) (out_ite (rfl) (out_ite (out_ite (out_ite (rfl) (out_ite (out_ite (out_ite (rfl) (rfl)) (rfl)) (rfl))) (rfl)) (rfl)))))))) (rfl)) (rfl)) (rfl)) (rfl))
noncomputable def law02_RowsetOrder_A : AL base0 (RowID × RowID × RowID × List RowID × Unit) := aCons (aPure (vAgg 23)) (aCons (aPure (vAgg 23)) (aCons (aPure (vAgg 23)) (aCons (aPure (vSl 23)) aNil)))
noncomputable def law02_RowsetOrder_spec : Ab.Spec ty := mkSpec law02_RowsetOrder_A fun x => ((law02_RowsetOrder x.1 x.2.1 x.2.2.1 x.2.2.2.1).1, law02_RowsetOrder_res (law02_RowsetOrder x.1 x.2.1 x.2.2.1 x.2.2.2.1).2)
theorem law02_RowsetOrder_sound : Sound Tryd.prog base0 3 law02_RowsetOrder_spec :=
  sound_of_run (cx' := law02_RowsetOrder_cx) draws base0_ok ⟨⟨rfl, rfl, rfl, rfl, rfl, rfl⟩, rfl⟩ (spec_of [(8, law02_awake_spec), (9, rowset_Compare_spec), (10, rowset_Normalize_spec), (11, rowset_Subset_spec)] ⟨(law02_awake_sound), (rowset_Compare_sound.nodr), (rowset_Normalize_sound.nodr), (rowset_Subset_sound.nodr), trivial⟩) Tryd.call3 Tryd.func3 (c := body Tryd.f3) (by kernel_rfl) (loopsOK_of (l := [lp (body Tryd.f3) 0]) (by kernel_rfl) ⟨law02_RowsetOrder_to10, trivial⟩) (sg := ⟨[.pure], []⟩) (A := law02_RowsetOrder_A) (res := law02_RowsetOrder_res) (F := fun x => law02_RowsetOrder x.1 x.2.1 x.2.2.1 x.2.2.2.1) (fun x => law02_RowsetOrder_run x.1 x.2.1 x.2.2.1 x.2.2.2.1) (fun _ => by kernel_rfl) (by kernel_rfl)
end Go.Proofs.YteopikhooiallaaDoor
/- Functions of the program as plain functions, with their contracts. Printed by program. -/
set_option autoImplicit false
set_option linter.unusedVariables false
set_option linter.unusedSimpArgs false
namespace Go.Proofs.YteopikhooiallaaDoor
open Go Go.Ab
/-! ### lineage/lineagelaw02.RowsetAlgebra -/
noncomputable def law02_RowsetAlgebra_cx : Cx ty := { base0 with nt := 100, spec := fun g => List.lookup g [(8, law02_awake_spec), (10, rowset_Normalize_spec), (11, rowset_Subset_spec), (15, ref02_Same_spec), (17, rowset_Union_spec), (19, rowset_Minus_spec)], io := fun g => (List.lookup g []).getD [], head := fun i => (List.lookup i []).getD [], out := outOf [], loops := fun i => List.lookup i [] }
noncomputable def law02_RowsetAlgebra (a : List RowID) (b : List RowID) (c : List RowID) : Bool × Bool := bif decide (Int.ofNat a.length > (20 : Int)) then (true, true) else bif decide (Int.ofNat b.length > (20 : Int)) then (true, true) else bif decide (Int.ofNat c.length > (20 : Int)) then (true, true) else bnd (rowset_Union a b) (fun r20 => bnd (rowset_Union b a) (fun r19 => bnd (ref02_Same r20 r19) (fun r18 => bif !r18 then (true, false) else bnd (rowset_Union r20 c) (fun r17 => bnd (rowset_Union b c) (fun r16 => bnd (rowset_Union a r16) (fun r15 => bnd (ref02_Same r17 r15) (fun r14 => bif !r14 then (true, false) else bnd (rowset_Union a a) (fun r13 => bnd (rowset_Normalize a) (fun r12 => bnd (ref02_Same r13 r12) (fun r11 => bif !r11 then (true, false) else bnd (rowset_Minus a b) (fun r10 => bnd (rowset_Minus a r10) (fun r9 => bnd (rowset_Union r9 r10) (fun r8 => bnd (rowset_Normalize a) (fun r7 => bnd (ref02_Same r8 r7) (fun r6 => bif r6 then bnd (rowset_Minus r9 b) (fun r5 => bif Int.ofNat r5.length == (0 : Int) then bnd (rowset_Union r10 b) (fun r4 => bnd (ref02_Same r4 r20) (fun r3 => bif r3 then bnd (rowset_Subset a b) (fun r2 => bif r2 == (Int.ofNat r10.length == (0 : Int)) then bnd (rowset_Subset a r20) (fun r1 => bif r1 then bnd (rowset_Subset b r20) (fun r0 => (true, r0)) (false, default) else (true, false)) (false, default) else (true, false)) (false, default) else (true, false)) (false, default)) (false, default) else (true, false)) (false, default) else (true, false)) (false, default)) (false, default)) (false, default)) (false, default)) (false, default)) (false, default)) (false, default)) (false, default)) (false, default)) (false, default)) (false, default)) (false, default)) (false, default)) (false, default)) (false, default)
noncomputable def law02_RowsetAlgebra_res (r : Bool) : ARes ty := ⟨[.pure (.lit (.bool r))], []⟩
theorem law02_RowsetAlgebra_run (a : List RowID) (b : List RowID) (c : List RowID) : runFn law02_RowsetAlgebra_cx Tryd.f6 (body Tryd.f6) ⟨[.pure], []⟩ [.pure (.sl 23 a), .pure (.sl 23 b), .pure (.sl 23 c)] = out (fun r => some (law02_RowsetAlgebra_res r)) (law02_RowsetAlgebra a b c) := by
  have h : runFn law02_RowsetAlgebra_cx Tryd.f6 (body Tryd.f6) ⟨[.pure], []⟩ [.pure (.sl 23 a), .pure (.sl 23 b), .pure (.sl 23 c)] = bif decide (Int.ofNat a.length > (20 : Int)) then some ⟨[.pure (.lit (.bool true))], []⟩ else bif decide (Int.ofNat b.length > (20 : Int)) then some ⟨[.pure (.lit (.bool true))], []⟩ else bif decide (Int.ofNat c.length > (20 : Int)) then some ⟨[.pure (.lit (.bool true))], []⟩ else obnd (rowset_Union a b) (fun r41 => obnd (rowset_Union b a) (fun r40 => obnd (ref02_Same r41 r40) (fun r39 => bif !r39 then some ⟨[.pure (.lit (.bool false))], []⟩ else obnd (rowset_Union r41 c) (fun r38 => obnd (rowset_Union b c) (fun r37 => obnd (rowset_Union a r37) (fun r36 => obnd (ref02_Same r38 r36) (fun r35 => bif !r35 then some ⟨[.pure (.lit (.bool false))], []⟩ else obnd (rowset_Union a a) (fun r34 => obnd (rowset_Normalize a) (fun r33 => obnd (ref02_Same r34 r33) (fun r32 => bif !r32 then some ⟨[.pure (.lit (.bool false))], []⟩ else obnd (rowset_Minus a b) (fun r31 => obnd (rowset_Minus a r31) (fun r30 => obnd (rowset_Union r30 r31) (fun r29 => obnd (rowset_Normalize a) (fun r28 => obnd (ref02_Same r29 r28) (fun r27 => bif r27 then obnd (rowset_Minus r30 b) (fun r26 => bif Int.ofNat r26.length == (0 : Int) then obnd (rowset_Union r31 b) (fun r25 => obnd (ref02_Same r25 r41) (fun r24 => bif r24 then obnd (rowset_Subset a b) (fun r23 => bif r23 == (Int.ofNat r31.length == (0 : Int)) then obnd (rowset_Subset a r41) (fun r22 => bif r22 then obnd (rowset_Subset b r41) (fun r21 => some ⟨[.pure (.lit (.bool (r21)))], []⟩) else some ⟨[.pure (.lit (.bool false))], []⟩) else some ⟨[.pure (.lit (.bool false))], []⟩) else some ⟨[.pure (.lit (.bool false))], []⟩)) else some ⟨[.pure (.lit (.bool false))], []⟩) else some ⟨[.pure (.lit (.bool false))], []⟩))))))))))))))) := by kernel_rfl
  rw [law02_RowsetAlgebra]
  exact h.trans (out_ite (rfl) (out_ite (rfl) (out_ite (rfl) (out_ite (out_ite (out_ite (out_ite (rfl) (out_ite (out_ite (out_ite (out_ite (out_ite (rfl) (out_ite (out_ite (out_ite (out_ite (rfl) (out_ite (out_ite (out_ite (out_ite (out_ite (out_ite (out_ite (out_ite (out_ite (out_ite (out_ite (out_ite (out_ite (out_ite (out_ite (out_ite (rfl) (rfl)) (rfl)) (rfl)) (rfl)) (rfl)) (rfl)) (rfl)) (rfl)) (rfl)) (rfl)) (rfl)) (rfl)) (rfl)) (rfl)) (rfl)) (rfl))) (rfl)) (rfl)) (rfl))) (rfl)) (rfl)) (rfl)) (rfl))) (rfl)) (rfl)) (rfl)))))
noncomputable def law02_RowsetAlgebra_A : AL base0 (List RowID × List RowID × List RowID × Unit) := aCons (aPure (vSl 23)) (aCons (aPure (vSl 23)) (aCons (aPure (vSl 23)) aNil))
noncomputable def law02_RowsetAlgebra_spec : Ab.Spec ty := mkSpec law02_RowsetAlgebra_A fun x => ((law02_RowsetAlgebra x.1 x.2.1 x.2.2.1).1, law02_RowsetAlgebra_res (law02_RowsetAlgebra x.1 x.2.1 x.2.2.1).2)
theorem law02_RowsetAlgebra_sound : Sound Tryd.prog base0 6 law02_RowsetAlgebra_spec :=
  sound_of_run (cx' := law02_RowsetAlgebra_cx) draws base0_ok ⟨⟨rfl, rfl, rfl, rfl, rfl, rfl⟩, rfl⟩ (spec_of [(8, law02_awake_spec), (10, rowset_Normalize_spec), (11, rowset_Subset_spec), (15, ref02_Same_spec), (17, rowset_Union_spec), (19, rowset_Minus_spec)] ⟨(law02_awake_sound), (rowset_Normalize_sound.nodr), (rowset_Subset_sound.nodr), (ref02_Same_sound.nodr), (rowset_Union_sound.nodr), (rowset_Minus_sound.nodr), trivial⟩) Tryd.call6 Tryd.func6 (c := body Tryd.f6) (by kernel_rfl) (loopsOK_of (l := []) (by kernel_rfl) trivial) (sg := ⟨[.pure], []⟩) (A := law02_RowsetAlgebra_A) (res := law02_RowsetAlgebra_res) (F := fun x => law02_RowsetAlgebra x.1 x.2.1 x.2.2.1) (fun x => law02_RowsetAlgebra_run x.1 x.2.1 x.2.2.1) (fun _ => by kernel_rfl) (by kernel_rfl)
end Go.Proofs.YteopikhooiallaaDoor
/- RowsetOrder, RowsetSets, RowsetAlgebra: the laws over the printed functions. -/
set_option autoImplicit false
set_option linter.unusedVariables false
set_option linter.unusedSimpArgs false
namespace Go.Proofs.YteopikhooiallaaDoor
open Go Go.Ab

theorem gt_num (n k : Nat) : decide (Int.ofNat n > (k : Int)) = decide (k < n) := by simp
theorem nR_len' (l : List RowID) : (nR l).length ≤ l.length := snorm_length cR_ord l
theorem nR_mem' {l : List RowID} {z : RowID} : z ∈ nR l ↔ z ∈ l := snorm_mem cR_ord l z
theorem nR_congr' {l l' : List RowID} (h : ∀ z, z ∈ l ↔ z ∈ l') : nR l = nR l' := snorm_congr cR_ord h

/-! ### RowsetOrder -/
theorem cR_neg (a b : RowID) : cR b a = - cR a b := by
  simp only [cR]
  repeat' split
  all_goals omega
theorem Order_loop (l s : List RowID) (hl : s.length ≤ 1000000) : ∀ (n i : Nat), s.length < i + n → 0 < i → i ≤ s.length → law02_RowsetOrder_L10 n l i s = (true, if chain cR (s.getD (i - 1) default) (s.drop i) then .inr (l, s) else .inl false)
  | 0, i, h, h0, h2 => by omega
  | n + 1, i, h, h0, h2 => by
    rw [law02_RowsetOrder_L10]
    by_cases hi : i < s.length
    · have hi1 : i - 1 < s.length := by omega
      rw [wrap_pred h0 (by omega)]
      simp only [Int.ofNat_eq_natCast, lt_nat, le0_nat, decide_true, decide_false, Bool.and_self, Bool.true_and, Bool.and_true, cond_true, cond_false, Int.toNat_natCast, eqR, eqR', Bool.not_true, Bool.not_false, bnd, hi, hi1, rowset_Compare_eq]
      rw [drop_lt hi, wrap_succ (by omega), Order_loop l s hl n (i + 1) (by omega) (by omega) (by omega)]
      simp only [Nat.add_sub_cancel]
      generalize s.getD i default = x
      generalize s.getD (i - 1) default = y
      by_cases hx : cR y x < 0
      · have h3 : ¬ cR y x ≥ 0 := by omega
        simp [chain, hx, h3]
      · have h3 : cR y x ≥ 0 := by omega
        simp [chain, hx, h3]
    · simp only [Int.ofNat_eq_natCast, lt_nat, le0_nat, decide_true, decide_false, Bool.and_self, Bool.true_and, Bool.and_true, cond_true, cond_false, Int.toNat_natCast, eqR, eqR', Bool.not_true, Bool.not_false, bnd, hi, drop_ge hi]; rfl
theorem order_plain (a b c : RowID) (l : List RowID) (wa : wf23 a) (wb : wf23 b) (wc : wf23 c) (wl : wf24 l) : law02_RowsetOrder a b c l = (true, true) := by
  unfold law02_RowsetOrder
  simp only [rowset_Compare_eq, bnd, cond_true]
  have e1 : (cR b a != IntKind.i64.wrap (0 - cR a b)) = false := by
    rcases cR_range a b with h | h | h <;> rw [cR_neg a b, h] <;> rfl
  have e2 : (!(cR a b == (0 : Int)) == (a.Table == b.Table && (a.Seq == b.Seq && true))) = false := by
    rw [eqR]
    by_cases h : a = b
    · subst h
      have := cR_ord.refl a
      simp [this]
    · have : cR a b ≠ 0 := fun e => h ((cR_ord.eq a b).1 e)
      simp [h, this]
  have e3 : decide (cR a b < -1) = false := by rcases cR_range a b with h | h | h <;> rw [h] <;> rfl
  have e4 : decide (cR a b > 1) = false := by rcases cR_range a b with h | h | h <;> rw [h] <;> rfl
  simp only [e1, e2, e3, e4, cond_false]
  have tail : ∀ (q : Bool), q = decide (Int.ofNat l.length > 20) → (bif q then ((true, true) : Bool × Bool) else bif (rowset_Normalize l).1 then bif (law02_RowsetOrder_L10 (l.length + Int.toNat 1 + (rowset_Normalize l).2.length + 1) l 1 (rowset_Normalize l).2).1 then
      bif isL (law02_RowsetOrder_L10 (l.length + Int.toNat 1 + (rowset_Normalize l).2.length + 1) l 1 (rowset_Normalize l).2).2 then (true, getL (law02_RowsetOrder_L10 (l.length + Int.toNat 1 + (rowset_Normalize l).2.length + 1) l 1 (rowset_Normalize l).2).2)
      else bif (rowset_Subset (getR (law02_RowsetOrder_L10 (l.length + Int.toNat 1 + (rowset_Normalize l).2.length + 1) l 1 (rowset_Normalize l).2).2).1 (getR (law02_RowsetOrder_L10 (l.length + Int.toNat 1 + (rowset_Normalize l).2.length + 1) l 1 (rowset_Normalize l).2).2).2).1 then
        bif (rowset_Subset (getR (law02_RowsetOrder_L10 (l.length + Int.toNat 1 + (rowset_Normalize l).2.length + 1) l 1 (rowset_Normalize l).2).2).1 (getR (law02_RowsetOrder_L10 (l.length + Int.toNat 1 + (rowset_Normalize l).2.length + 1) l 1 (rowset_Normalize l).2).2).2).2 then
          bif (rowset_Subset (getR (law02_RowsetOrder_L10 (l.length + Int.toNat 1 + (rowset_Normalize l).2.length + 1) l 1 (rowset_Normalize l).2).2).2 (getR (law02_RowsetOrder_L10 (l.length + Int.toNat 1 + (rowset_Normalize l).2.length + 1) l 1 (rowset_Normalize l).2).2).1).1 then
            (true, (rowset_Subset (getR (law02_RowsetOrder_L10 (l.length + Int.toNat 1 + (rowset_Normalize l).2.length + 1) l 1 (rowset_Normalize l).2).2).2 (getR (law02_RowsetOrder_L10 (l.length + Int.toNat 1 + (rowset_Normalize l).2.length + 1) l 1 (rowset_Normalize l).2).2).1).2) else (false, default)
        else (true, false) else (false, default) else (false, default) else (false, default)) = (true, true) := by
    intro q hq
    subst hq
    rw [show (20 : Int) = ((20 : Nat) : Int) from rfl, gt_num]
    by_cases hl : 20 < l.length
    · simp only [hl, decide_true, cond_true]
    · have h1 := nR_len' l
      have hL : law02_RowsetOrder_L10 (l.length + Int.toNat 1 + (nR l).length + 1) l 1 (nR l) = (true, .inr (l, nR l)) := by
        have hs := snorm_asc cR_ord l
        cases hn : nR l with
        | nil => rfl
        | cons x r =>
          rw [show (1 : Int) = ((1 : Nat) : Int) from rfl, Order_loop l (x :: r) (by rw [← hn]; omega) _ 1 (by simp; omega) (by omega) (by simp)]
          have hc : chain cR x r = true := (chain_iff cR_ord r x).2 (by rw [← hn]; exact hs)
          simp [hc]
      simp only [hl, decide_false, cond_false, rowset_Normalize_eq l (by omega), cond_true, hL, isL, getR, rowset_Subset_eq l (nR l) (by omega) (by omega), rowset_Subset_eq (nR l) l (by omega) (by omega)]
      have s1 : l.all (fun x => decide (x ∈ nR l)) = true := by rw [List.all_eq_true]; intro x hx; exact decide_eq_true (nR_mem'.2 hx)
      have s2 : (nR l).all (fun x => decide (x ∈ l)) = true := by rw [List.all_eq_true]; intro x hx; exact decide_eq_true (nR_mem'.1 hx)
      simp only [s1, s2, cond_true]
  by_cases hx : cR a b ≤ 0
  · by_cases hy : cR b c ≤ 0
    · have hz : ¬ cR a c > 0 := by
        intro hz
        have h1 : ¬ cR b a < 0 := by rw [cR_neg a b]; omega
        have h2 : ¬ cR c b < 0 := by rw [cR_neg b c]; omega
        have h3 := cR_ord.le_trans h1 h2
        rw [cR_neg a c] at h3
        omega
      simp only [hx, hy, hz, decide_true, decide_false, cond_true, cond_false]
      exact tail _ rfl
    · simp only [hx, hy, decide_true, decide_false, cond_true, cond_false]
      exact tail _ rfl
  · simp only [hx, decide_false, cond_false]
    exact tail _ rfl

/-! ### RowsetSets -/
theorem minus_eq (a b : List RowID) : (nR a).filter (fun x => !decide (x ∈ b)) = nR (a.filter fun x => !decide (x ∈ b)) :=
  snorm_of cR_ord ((snorm_asc cR_ord a).filter _) fun z => by rw [List.mem_filter, List.mem_filter, nR_mem']
theorem sets_plain (a b : List RowID) (wa : wf24 a) (wb : wf24 b) : law02_RowsetSets a b = (true, true) := by
  unfold law02_RowsetSets
  rw [show (30 : Int) = ((30 : Nat) : Int) from rfl, gt_num, gt_num]
  by_cases ha : 30 < a.length
  · simp only [ha, decide_true, cond_true]
  by_cases hb : 30 < b.length
  · simp only [ha, hb, decide_true, decide_false, cond_true, cond_false]
  have h1 := nR_len' a
  have h2 := nR_len' (a ++ b)
  have h3 := nR_len' (a.filter fun x => !decide (x ∈ b))
  have h4 : (a.filter fun x => !decide (x ∈ b)).length ≤ a.length := List.length_filter_le _ _
  rw [List.length_append] at h2
  simp only [ha, hb, decide_false, cond_false, rowset_Normalize_eq a (by omega), ref02_Normalize_eq a (by omega), rowset_Union_eq a b (by omega), ref02_Union_eq a b (by omega) (by omega), rowset_Minus_eq a b (by omega) (by omega),
    ref02_Minus_eq a b (by omega) (by omega), rowset_Subset_eq a b (by omega) (by omega), ref02_Subset_eq a b (by omega) (by omega), bnd, cond_true, ref02_Same_eq (nR a) _ (by omega), ref02_Same_eq (nR (a ++ b)) _ (by omega), minus_eq, ref02_Same_eq (nR (a.filter fun x => !decide (x ∈ b))) _ (by omega), decide_true, beq_self_eq_true]

/-! ### RowsetAlgebra -/
theorem algebra_plain (a b c : List RowID) (wa : wf24 a) (wb : wf24 b) (wc : wf24 c) : law02_RowsetAlgebra a b c = (true, true) := by
  unfold law02_RowsetAlgebra
  rw [show (20 : Int) = ((20 : Nat) : Int) from rfl, gt_num, gt_num, gt_num]
  by_cases ha : 20 < a.length
  · simp only [ha, decide_true, cond_true]
  by_cases hb : 20 < b.length
  · simp only [ha, hb, decide_true, decide_false, cond_true, cond_false]
  by_cases hc : 20 < c.length
  · simp only [ha, hb, hc, decide_true, decide_false, cond_true, cond_false]
  simp only [ha, hb, hc, decide_false, cond_false]
  have n1 := nR_len' a
  have n2 := nR_len' (a ++ b)
  have n3 := nR_len' (b ++ c)
  rw [List.length_append] at n2 n3
  have n4 := nR_len' (nR (a ++ b) ++ c)
  rw [List.length_append] at n4
  have n5 := nR_len' (a ++ a)
  rw [List.length_append] at n5
  rw [rowset_Union_eq a b (by omega), rowset_Union_eq b a (by omega)]
  simp only [bnd, cond_true]
  rw [ref02_Same_eq _ _ (by omega), nR_congr' (l := b ++ a) (l' := a ++ b) fun z => by simp [or_comm]]
  simp only [decide_true, Bool.not_true, cond_true, cond_false]
  rw [rowset_Union_eq (nR (a ++ b)) c (by omega), rowset_Union_eq b c (by omega)]
  simp only [cond_true]
  rw [rowset_Union_eq a (nR (b ++ c)) (by omega)]
  simp only [cond_true]
  rw [ref02_Same_eq _ _ (by omega), nR_congr' (l := nR (a ++ b) ++ c) (l' := a ++ nR (b ++ c)) fun z => by simp [nR_mem', or_assoc]]
  simp only [decide_true, Bool.not_true, cond_true, cond_false]
  rw [rowset_Union_eq a a (by omega), rowset_Normalize_eq a (by omega)]
  simp only [cond_true]
  rw [ref02_Same_eq _ _ (by omega), nR_congr' (l := a ++ a) (l' := a) fun z => by simp]
  simp only [decide_true, Bool.not_true, cond_true, cond_false]
  rw [rowset_Minus_eq a b (by omega) (by omega)]
  simp only [cond_true]
  generalize ho : (nR a).filter (fun x => !decide (x ∈ b)) = o
  have mo : ∀ z, z ∈ o ↔ z ∈ a ∧ z ∉ b := fun z => by rw [← ho]; simp [nR_mem']
  have lo : o.length ≤ 20 := by
    have : o.length ≤ (nR a).length := by rw [← ho]; exact List.length_filter_le _ _
    omega
  rw [rowset_Minus_eq a o (by omega) (by omega)]
  simp only [cond_true]
  generalize hin : (nR a).filter (fun x => !decide (x ∈ o)) = i
  have mi : ∀ z, z ∈ i ↔ z ∈ a ∧ z ∈ b := fun z => by
    rw [← hin]
    simp only [List.mem_filter, nR_mem', mo, Bool.not_eq_true', decide_eq_false_iff_not]
    constructor
    · rintro ⟨h1, h2⟩; exact ⟨h1, Classical.byContradiction fun h => h2 ⟨h1, h⟩⟩
    · rintro ⟨h1, h2⟩; exact ⟨h1, fun h => h.2 h2⟩
  have li : i.length ≤ 20 := by
    have : i.length ≤ (nR a).length := by rw [← hin]; exact List.length_filter_le _ _
    omega
  have n6 := nR_len' (i ++ o)
  have n7 := nR_len' (o ++ b)
  rw [List.length_append] at n6 n7
  rw [rowset_Union_eq i o (by omega)]
  simp only [cond_true]
  rw [ref02_Same_eq _ _ (by omega), nR_congr' (l := i ++ o) (l' := a) fun z => by
    rw [List.mem_append, mi, mo]
    by_cases h : z ∈ b <;> simp [h]]
  simp only [decide_true, cond_true]
  rw [rowset_Minus_eq i b (by omega) (by omega)]
  have e1 : (nR i).filter (fun x => !decide (x ∈ b)) = [] := by
    rw [List.filter_eq_nil_iff]
    intro x hx
    have := (mi x).1 (nR_mem'.1 hx)
    simp [this.2]
  rw [e1]
  simp only [cond_true, List.length_nil]
  rw [show (Int.ofNat 0 == (0 : Int)) = true from rfl]
  simp only [cond_true]
  rw [rowset_Union_eq o b (by omega)]
  simp only [cond_true]
  rw [ref02_Same_eq _ _ (by omega), nR_congr' (l := o ++ b) (l' := a ++ b) fun z => by
    rw [List.mem_append, List.mem_append, mo]
    by_cases h : z ∈ b <;> simp [h]]
  simp only [decide_true, cond_true]
  rw [rowset_Subset_eq a b (by omega) (by omega)]
  have e2 : (a.all (fun x => decide (x ∈ b)) == (Int.ofNat o.length == (0 : Int))) = true := by
    have : (Int.ofNat o.length == (0 : Int)) = decide (o.length = 0) := beq_nat _ 0
    rw [this, beq_iff_eq, Bool.eq_iff_iff, decide_eq_true_eq, List.length_eq_zero_iff, List.all_eq_true]
    constructor
    · intro h
      refine List.eq_nil_iff_forall_not_mem.2 fun z hz => ?_
      have h1 := (mo z).1 hz
      exact h1.2 (of_decide_eq_true (h z h1.1))
    · intro h x hx
      refine decide_eq_true (Classical.byContradiction fun hb => ?_)
      have := (mo x).2 ⟨hx, hb⟩
      rw [h] at this; cases this
  simp only [cond_true]
  rw [e2]
  simp only [cond_true]
  rw [rowset_Subset_eq a _ (by omega) (by omega), rowset_Subset_eq b _ (by omega) (by omega)]
  have s1 : a.all (fun x => decide (x ∈ nR (a ++ b))) = true := by rw [List.all_eq_true]; intro x hx; exact decide_eq_true (nR_mem'.2 (by simp [hx]))
  have s2 : b.all (fun x => decide (x ∈ nR (a ++ b))) = true := by rw [List.all_eq_true]; intro x hx; exact decide_eq_true (nR_mem'.2 (by simp [hx]))
  simp only [s1, s2, cond_true]
end Go.Proofs.YteopikhooiallaaDoor
/- Functions of the program as plain functions, with their contracts. Printed by program. -/
set_option autoImplicit false
set_option linter.unusedVariables false
set_option linter.unusedSimpArgs false
namespace Go.Proofs.YteopikhooiallaaDoor
open Go Go.Ab
/-! ### lineage/lineagelaw02.RowsetMinimal -/
noncomputable def law02_RowsetMinimal_L13 : Nat → List (List RowID) → Int → Bool → Int → List (List RowID) → Bool × (List (List RowID) × Int × Bool × List (List RowID))
  | 0, _, _, _, _, _ => (false, default)
  | n + 1, l, i, found, k, m => bif decide (k < Int.ofNat m.length) then bif found then law02_RowsetMinimal_L13 n l i true (IntKind.i64.wrap (k + (1 : Int))) m else bif decide ((0 : Int) ≤ k) && decide (k < Int.ofNat m.length) then bif decide ((0 : Int) ≤ i) && decide (i < Int.ofNat l.length) then bnd (rowset_Subset (m.getD k.toNat default) (l.getD i.toNat default)) (fun r0 => law02_RowsetMinimal_L13 n l i (r0) (IntKind.i64.wrap (k + (1 : Int))) m) (false, default) else (false, default) else (false, default) else (true, (l, i, found, m))
noncomputable def law02_RowsetMinimal_tr13 (r : List (List RowID) × Int × Bool × List (List RowID)) : LTree ty := .done (.exit 2) [.sl 24 r.1, .own 416, .lit (.int .i64 r.2.1), .lit (.bool r.2.2.1)] [.arr 24 r.2.2.2 false]
noncomputable def law02_RowsetMinimal_V13 : LL ty (List (List RowID) × Unit × Int × Bool × Int × Unit) := llCons (lSl 24) (llCons (lOwn 416) (llCons (lInt .i64) (llCons lBool (llCons (lInt .i64) llNil))))
noncomputable def law02_RowsetMinimal_B13 : BL ty (List (List RowID) × Unit) := bArr 24 false (bNil)
noncomputable def law02_RowsetMinimal_sp13 : LSpec ty := mkLoop law02_RowsetMinimal_V13 law02_RowsetMinimal_B13 fun x y => ((law02_RowsetMinimal_L13 (x.1.length + Int.toNat x.2.2.1 + Int.toNat x.2.2.2.2.1 + y.1.length + 1) x.1 x.2.2.1 x.2.2.2.1 x.2.2.2.2.1 y.1).1, law02_RowsetMinimal_tr13 (law02_RowsetMinimal_L13 (x.1.length + Int.toNat x.2.2.1 + Int.toNat x.2.2.2.2.1 + y.1.length + 1) x.1 x.2.2.1 x.2.2.2.1 x.2.2.2.2.1 y.1).2)
noncomputable def law02_RowsetMinimal_L9 : Nat → List (List RowID) → Int → List (List RowID) → Bool × (Bool ⊕ (List (List RowID) × List (List RowID)))
  | 0, _, _, _ => (false, .inl default)
  | n + 1, l, i, m => bif decide (i < Int.ofNat l.length) then bnd (law02_RowsetMinimal_L13 (l.length + i.toNat + Int.toNat (0 : Int) + m.length + (1 : Nat)) l i false (0 : Int) m) (fun r2 => bif !r2.snd.snd.fst then (true, .inl false) else law02_RowsetMinimal_L9 n (r2.fst) (IntKind.i64.wrap (r2.snd.fst + (1 : Int))) (r2.snd.snd.snd)) (false, .inl default) else (true, .inr (l, m))
noncomputable def law02_RowsetMinimal_tr9 (r : Bool ⊕ (List (List RowID) × List (List RowID))) : LTree ty := .ite (isL r) (.done .ret [.lit (.bool (getL r))] []) (.done (.exit 0) [.sl 24 ((getR r).1), .own 416] [.arr 24 ((getR r).2) false])
noncomputable def law02_RowsetMinimal_V9 : LL ty (List (List RowID) × Unit × Int × Unit) := llCons (lSl 24) (llCons (lOwn 416) (llCons (lInt .i64) llNil))
noncomputable def law02_RowsetMinimal_B9 : BL ty (List (List RowID) × Unit) := bArr 24 false (bNil)
noncomputable def law02_RowsetMinimal_sp9 : LSpec ty := mkLoop law02_RowsetMinimal_V9 law02_RowsetMinimal_B9 fun x y => ((law02_RowsetMinimal_L9 (x.1.length + Int.toNat x.2.2.1 + y.1.length + 1) x.1 x.2.2.1 y.1).1, law02_RowsetMinimal_tr9 (law02_RowsetMinimal_L9 (x.1.length + Int.toNat x.2.2.1 + y.1.length + 1) x.1 x.2.2.1 y.1).2)
noncomputable def law02_RowsetMinimal_L23 : Nat → List (List RowID) → Int → Bool → Int → List (List RowID) → Bool × (List (List RowID) × Int × Bool × List (List RowID))
  | 0, _, _, _, _, _ => (false, default)
  | n + 1, l, i, found, k, m => bif decide (k < Int.ofNat l.length) then bif found then law02_RowsetMinimal_L23 n l i true (IntKind.i64.wrap (k + (1 : Int))) m else bif decide ((0 : Int) ≤ i) && decide (i < Int.ofNat m.length) then bif decide ((0 : Int) ≤ k) && decide (k < Int.ofNat l.length) then bnd (rowset_Subset (m.getD i.toNat default) (l.getD k.toNat default)) (fun r5 => bif r5 then bif decide ((0 : Int) ≤ k) && decide (k < Int.ofNat l.length) then bif decide ((0 : Int) ≤ i) && decide (i < Int.ofNat m.length) then bnd (rowset_Subset (l.getD k.toNat default) (m.getD i.toNat default)) (fun r4 => law02_RowsetMinimal_L23 n l i (r4) (IntKind.i64.wrap (k + (1 : Int))) m) (false, default) else (false, default) else (false, default) else law02_RowsetMinimal_L23 n l i false (IntKind.i64.wrap (k + (1 : Int))) m) (false, default) else (false, default) else (false, default) else (true, (l, i, found, m))
noncomputable def law02_RowsetMinimal_tr23 (r : List (List RowID) × Int × Bool × List (List RowID)) : LTree ty := .done (.exit 6) [.sl 24 r.1, .own 416, .lit (.int .i64 r.2.1), .lit (.bool r.2.2.1)] [.arr 24 r.2.2.2 false]
noncomputable def law02_RowsetMinimal_V23 : LL ty (List (List RowID) × Unit × Int × Bool × Int × Unit) := llCons (lSl 24) (llCons (lOwn 416) (llCons (lInt .i64) (llCons lBool (llCons (lInt .i64) llNil))))
noncomputable def law02_RowsetMinimal_B23 : BL ty (List (List RowID) × Unit) := bArr 24 false (bNil)
noncomputable def law02_RowsetMinimal_sp23 : LSpec ty := mkLoop law02_RowsetMinimal_V23 law02_RowsetMinimal_B23 fun x y => ((law02_RowsetMinimal_L23 (x.1.length + Int.toNat x.2.2.1 + Int.toNat x.2.2.2.2.1 + y.1.length + 1) x.1 x.2.2.1 x.2.2.2.1 x.2.2.2.2.1 y.1).1, law02_RowsetMinimal_tr23 (law02_RowsetMinimal_L23 (x.1.length + Int.toNat x.2.2.1 + Int.toNat x.2.2.2.2.1 + y.1.length + 1) x.1 x.2.2.1 x.2.2.2.1 x.2.2.2.2.1 y.1).2)
noncomputable def law02_RowsetMinimal_L27 : Nat → List (List RowID) → Int → Bool → Int → List (List RowID) → Bool × (Bool ⊕ (List (List RowID) × Int × Bool × List (List RowID)))
  | 0, _, _, _, _, _ => (false, .inl default)
  | n + 1, l, i, found, k, m => bif decide (k < Int.ofNat m.length) then bif k != i then bif decide ((0 : Int) ≤ k) && decide (k < Int.ofNat m.length) then bif decide ((0 : Int) ≤ i) && decide (i < Int.ofNat m.length) then bnd (rowset_Subset (m.getD k.toNat default) (m.getD i.toNat default)) (fun r8 => bif r8 then (true, .inl false) else law02_RowsetMinimal_L27 n l i found (IntKind.i64.wrap (k + (1 : Int))) m) (false, .inl default) else (false, .inl default) else (false, .inl default) else law02_RowsetMinimal_L27 n l i found (IntKind.i64.wrap (k + (1 : Int))) m else (true, .inr (l, i, found, m))
noncomputable def law02_RowsetMinimal_tr27 (r : Bool ⊕ (List (List RowID) × Int × Bool × List (List RowID))) : LTree ty := .ite (isL r) (.done .ret [.lit (.bool (getL r))] []) (.done (.exit 8) [.sl 24 ((getR r).1), .own 416, .lit (.int .i64 ((getR r).2.1)), .lit (.bool ((getR r).2.2.1))] [.arr 24 ((getR r).2.2.2) false])
noncomputable def law02_RowsetMinimal_V27 : LL ty (List (List RowID) × Unit × Int × Bool × Int × Unit) := llCons (lSl 24) (llCons (lOwn 416) (llCons (lInt .i64) (llCons lBool (llCons (lInt .i64) llNil))))
noncomputable def law02_RowsetMinimal_B27 : BL ty (List (List RowID) × Unit) := bArr 24 false (bNil)
noncomputable def law02_RowsetMinimal_sp27 : LSpec ty := mkLoop law02_RowsetMinimal_V27 law02_RowsetMinimal_B27 fun x y => ((law02_RowsetMinimal_L27 (x.1.length + Int.toNat x.2.2.1 + Int.toNat x.2.2.2.2.1 + y.1.length + 1) x.1 x.2.2.1 x.2.2.2.1 x.2.2.2.2.1 y.1).1, law02_RowsetMinimal_tr27 (law02_RowsetMinimal_L27 (x.1.length + Int.toNat x.2.2.1 + Int.toNat x.2.2.2.2.1 + y.1.length + 1) x.1 x.2.2.1 x.2.2.2.1 x.2.2.2.2.1 y.1).2)
noncomputable def law02_RowsetMinimal_L19 : Nat → List (List RowID) → Int → List (List RowID) → Bool × (Bool ⊕ Unit)
  | 0, _, _, _ => (false, .inl default)
  | n + 1, l, i, m => bif decide (i < Int.ofNat m.length) then bnd (law02_RowsetMinimal_L23 (l.length + i.toNat + Int.toNat (0 : Int) + m.length + (1 : Nat)) l i false (0 : Int) m) (fun r11 => bnd (law02_RowsetMinimal_L27 (r11.fst.length + r11.snd.fst.toNat + Int.toNat (0 : Int) + r11.snd.snd.snd.length + (1 : Nat)) r11.fst r11.snd.fst r11.snd.snd.fst (0 : Int) r11.snd.snd.snd) (fun r10 => bif isL r10 then (true, .inl (getL r10)) else bif !(getR r10).snd.snd.fst then (true, .inl false) else law02_RowsetMinimal_L19 n ((getR r10).fst) (IntKind.i64.wrap ((getR r10).snd.fst + (1 : Int))) ((getR r10).snd.snd.snd)) (false, .inl default)) (false, .inl default) else (true, .inr ())
noncomputable def law02_RowsetMinimal_tr19 (r : Bool ⊕ Unit) : LTree ty := .ite (isL r) (.done .ret [.lit (.bool (getL r))] []) (.done (.exit 4) [] [])
noncomputable def law02_RowsetMinimal_V19 : LL ty (List (List RowID) × Unit × Int × Unit) := llCons (lSl 24) (llCons (lOwn 416) (llCons (lInt .i64) llNil))
noncomputable def law02_RowsetMinimal_B19 : BL ty (List (List RowID) × Unit) := bArr 24 false (bNil)
noncomputable def law02_RowsetMinimal_sp19 : LSpec ty := mkLoop law02_RowsetMinimal_V19 law02_RowsetMinimal_B19 fun x y => ((law02_RowsetMinimal_L19 (x.1.length + Int.toNat x.2.2.1 + y.1.length + 1) x.1 x.2.2.1 y.1).1, law02_RowsetMinimal_tr19 (law02_RowsetMinimal_L19 (x.1.length + Int.toNat x.2.2.1 + y.1.length + 1) x.1 x.2.2.1 y.1).2)
noncomputable def law02_RowsetMinimal_cx : Cx ty := { base0 with nt := 104, spec := fun g => List.lookup g [(8, law02_awake_spec), (11, rowset_Subset_spec), (12, ref02_Few_spec), (13, rowset_Minimal_spec), (14, ref02_IsFamily_spec)], io := fun g => (List.lookup g []).getD [], head := fun i => (List.lookup i [(9, [(0, .keep), (3, .keep), (4, .keep)]), (13, [(0, .keep), (3, .keep), (4, .keep), (5, .keep), (6, .keep)]), (19, [(0, .keep), (3, .keep), (7, .keep)]), (23, [(0, .keep), (3, .keep), (7, .keep), (8, .keep), (9, .keep)]), (27, [(0, .keep), (3, .keep), (7, .keep), (8, .keep), (10, .keep)])]).getD [], out := outOf [(9, 1, [(0, .keep), (3, .keep)]), (9, 0, [(2, .keep)]), (13, 3, [(0, .keep), (3, .keep), (4, .keep), (5, .keep)]), (19, 5, []), (19, 0, [(2, .keep)]), (23, 7, [(0, .keep), (3, .keep), (7, .keep), (8, .keep)]), (27, 9, [(0, .keep), (3, .keep), (7, .keep), (8, .keep)]), (27, 0, [(2, .keep)])], loops := fun i => List.lookup i [(13, law02_RowsetMinimal_sp13), (9, law02_RowsetMinimal_sp9), (23, law02_RowsetMinimal_sp23), (27, law02_RowsetMinimal_sp27), (19, law02_RowsetMinimal_sp19)] }
theorem law02_RowsetMinimal_round13 {R : Type} (H : List (AV ty) → List (Blk ty) → Option R) (K : Ex → List (AV ty) → List (Blk ty) → Option R) (l : List (List RowID)) (i : Int) (found : Bool) (k : Int) (m : List (List RowID)) : roundK law02_RowsetMinimal_cx (lp (body Tryd.f4) 1) H K [.sl 24 l, .own 416, .lit (.int .i64 i), .lit (.bool found), .lit (.int .i64 k)] [.arr 24 m false] = bif decide (k < Int.ofNat m.length) then bif found then H [.sl 24 l, .own 416, .lit (.int .i64 i), .lit (.bool true), .lit (.int .i64 (IntKind.i64.wrap (k + (1 : Int))))] [.arr 24 m false] else bif decide ((0 : Int) ≤ k) && decide (k < Int.ofNat m.length) then bif decide ((0 : Int) ≤ i) && decide (i < Int.ofNat l.length) then obnd (rowset_Subset (m.getD k.toNat default) (l.getD i.toNat default)) (fun r1 => H [.sl 24 l, .own 416, .lit (.int .i64 i), .lit (.bool (r1)), .lit (.int .i64 (IntKind.i64.wrap (k + (1 : Int))))] [.arr 24 m false]) else none else none else K (.exit 2) [.sl 24 l, .own 416, .lit (.int .i64 i), .lit (.bool found)] [.arr 24 m false] := by kernel_rfl
theorem law02_RowsetMinimal_loop13 (R : Type) (K : Ex → List (AV ty) → List (Blk ty) → Option R) : ∀ (n : Nat) (l : List (List RowID)) (i : Int) (found : Bool) (k : Int) (m : List (List RowID)), loopI law02_RowsetMinimal_cx (lp (body Tryd.f4) 1) K n [.sl 24 l, .own 416, .lit (.int .i64 i), .lit (.bool found), .lit (.int .i64 k)] [.arr 24 m false] = out (fun r => treeK K (law02_RowsetMinimal_tr13 r)) (law02_RowsetMinimal_L13 n l i found k m)
  | 0, _, _, _, _, _ => rfl
  | n + 1, l, i, found, k, m => by
    have ih := law02_RowsetMinimal_loop13 R K n
    rw [law02_RowsetMinimal_L13]
    exact (law02_RowsetMinimal_round13 (loopI law02_RowsetMinimal_cx (lp (body Tryd.f4) 1) K n) K l i found k m).trans (out_ite (out_ite (ih l i true (IntKind.i64.wrap (k + (1 : Int))) m) (out_ite (out_ite (out_ite (ih l i ((rowset_Subset (m.getD k.toNat default) (l.getD i.toNat default)).snd) (IntKind.i64.wrap (k + (1 : Int))) m) (rfl)) (rfl)) (rfl))) (rfl))
theorem law02_RowsetMinimal_to13 : LoopOK law02_RowsetMinimal_cx (lp (body Tryd.f4) 1) := loopOK_of (id := 13) (sp := law02_RowsetMinimal_sp13) (by kernel_rfl) (by kernel_rfl) (loopTo_of (V := law02_RowsetMinimal_V13) (B := law02_RowsetMinimal_B13) (L := fun n x y => law02_RowsetMinimal_L13 n x.1 x.2.2.1 x.2.2.2.1 x.2.2.2.2.1 y.1) (tr := law02_RowsetMinimal_tr13) (m := fun x y => x.1.length + Int.toNat x.2.2.1 + Int.toNat x.2.2.2.2.1 + y.1.length + 1) fun R K n x y => law02_RowsetMinimal_loop13 R K n x.1 x.2.2.1 x.2.2.2.1 x.2.2.2.2.1 y.1)
theorem law02_RowsetMinimal_round9 {R : Type} (H : List (AV ty) → List (Blk ty) → Option R) (K : Ex → List (AV ty) → List (Blk ty) → Option R) (l : List (List RowID)) (i : Int) (m : List (List RowID)) : roundK law02_RowsetMinimal_cx (lp (body Tryd.f4) 0) H K [.sl 24 l, .own 416, .lit (.int .i64 i)] [.arr 24 m false] = bif decide (i < Int.ofNat l.length) then obnd (law02_RowsetMinimal_L13 (l.length + i.toNat + Int.toNat (0 : Int) + m.length + (1 : Nat)) l i false (0 : Int) m) (fun r3 => bif !r3.snd.snd.fst then K .ret [.lit (.bool false)] [] else H [.sl 24 (r3.fst), .own 416, .lit (.int .i64 (IntKind.i64.wrap (r3.snd.fst + (1 : Int))))] [.arr 24 (r3.snd.snd.snd) false]) else K (.exit 0) [.sl 24 l, .own 416] [.arr 24 m false] := by kernel_rfl
theorem law02_RowsetMinimal_loop9 (R : Type) (K : Ex → List (AV ty) → List (Blk ty) → Option R) : ∀ (n : Nat) (l : List (List RowID)) (i : Int) (m : List (List RowID)), loopI law02_RowsetMinimal_cx (lp (body Tryd.f4) 0) K n [.sl 24 l, .own 416, .lit (.int .i64 i)] [.arr 24 m false] = out (fun r => treeK K (law02_RowsetMinimal_tr9 r)) (law02_RowsetMinimal_L9 n l i m)
  | 0, _, _, _ => rfl
  | n + 1, l, i, m => by
    have ih := law02_RowsetMinimal_loop9 R K n
    rw [law02_RowsetMinimal_L9]
    exact (law02_RowsetMinimal_round9 (loopI law02_RowsetMinimal_cx (lp (body Tryd.f4) 0) K n) K l i m).trans (out_ite (out_ite (out_ite (rfl) (ih ((law02_RowsetMinimal_L13 (l.length + i.toNat + Int.toNat (0 : Int) + m.length + (1 : Nat)) l i false (0 : Int) m).snd.fst) (IntKind.i64.wrap ((law02_RowsetMinimal_L13 (l.length + i.toNat + Int.toNat (0 : Int) + m.length + (1 : Nat)) l i false (0 : Int) m).snd.snd.fst + (1 : Int))) ((law02_RowsetMinimal_L13 (l.length + i.toNat + Int.toNat (0 : Int) + m.length + (1 : Nat)) l i false (0 : Int) m).snd.snd.snd.snd))) (rfl)) (rfl))
theorem law02_RowsetMinimal_to9 : LoopOK law02_RowsetMinimal_cx (lp (body Tryd.f4) 0) := loopOK_of (id := 9) (sp := law02_RowsetMinimal_sp9) (by kernel_rfl) (by kernel_rfl) (loopTo_of (V := law02_RowsetMinimal_V9) (B := law02_RowsetMinimal_B9) (L := fun n x y => law02_RowsetMinimal_L9 n x.1 x.2.2.1 y.1) (tr := law02_RowsetMinimal_tr9) (m := fun x y => x.1.length + Int.toNat x.2.2.1 + y.1.length + 1) fun R K n x y => law02_RowsetMinimal_loop9 R K n x.1 x.2.2.1 y.1)
theorem law02_RowsetMinimal_round23 {R : Type} (H : List (AV ty) → List (Blk ty) → Option R) (K : Ex → List (AV ty) → List (Blk ty) → Option R) (l : List (List RowID)) (i : Int) (found : Bool) (k : Int) (m : List (List RowID)) : roundK law02_RowsetMinimal_cx (lp (body Tryd.f4) 3) H K [.sl 24 l, .own 416, .lit (.int .i64 i), .lit (.bool found), .lit (.int .i64 k)] [.arr 24 m false] = bif decide (k < Int.ofNat l.length) then bif found then H [.sl 24 l, .own 416, .lit (.int .i64 i), .lit (.bool true), .lit (.int .i64 (IntKind.i64.wrap (k + (1 : Int))))] [.arr 24 m false] else bif decide ((0 : Int) ≤ i) && decide (i < Int.ofNat m.length) then bif decide ((0 : Int) ≤ k) && decide (k < Int.ofNat l.length) then obnd (rowset_Subset (m.getD i.toNat default) (l.getD k.toNat default)) (fun r7 => bif r7 then bif decide ((0 : Int) ≤ k) && decide (k < Int.ofNat l.length) then bif decide ((0 : Int) ≤ i) && decide (i < Int.ofNat m.length) then obnd (rowset_Subset (l.getD k.toNat default) (m.getD i.toNat default)) (fun r6 => H [.sl 24 l, .own 416, .lit (.int .i64 i), .lit (.bool (r6)), .lit (.int .i64 (IntKind.i64.wrap (k + (1 : Int))))] [.arr 24 m false]) else none else none else H [.sl 24 l, .own 416, .lit (.int .i64 i), .lit (.bool false), .lit (.int .i64 (IntKind.i64.wrap (k + (1 : Int))))] [.arr 24 m false]) else none else none else K (.exit 6) [.sl 24 l, .own 416, .lit (.int .i64 i), .lit (.bool found)] [.arr 24 m false] := by kernel_rfl
theorem law02_RowsetMinimal_loop23 (R : Type) (K : Ex → List (AV ty) → List (Blk ty) → Option R) : ∀ (n : Nat) (l : List (List RowID)) (i : Int) (found : Bool) (k : Int) (m : List (List RowID)), loopI law02_RowsetMinimal_cx (lp (body Tryd.f4) 3) K n [.sl 24 l, .own 416, .lit (.int .i64 i), .lit (.bool found), .lit (.int .i64 k)] [.arr 24 m false] = out (fun r => treeK K (law02_RowsetMinimal_tr23 r)) (law02_RowsetMinimal_L23 n l i found k m)
  | 0, _, _, _, _, _ => rfl
  | n + 1, l, i, found, k, m => by
    have ih := law02_RowsetMinimal_loop23 R K n
    rw [law02_RowsetMinimal_L23]
    exact (law02_RowsetMinimal_round23 (loopI law02_RowsetMinimal_cx (lp (body Tryd.f4) 3) K n) K l i found k m).trans (out_ite (out_ite (ih l i true (IntKind.i64.wrap (k + (1 : Int))) m) (out_ite (out_ite (out_ite (out_ite (out_ite (out_ite (out_ite (ih l i ((rowset_Subset (l.getD k.toNat default) (m.getD i.toNat default)).snd) (IntKind.i64.wrap (k + (1 : Int))) m) (rfl)) (rfl)) (rfl)) (ih l i false (IntKind.i64.wrap (k + (1 : Int))) m)) (rfl)) (rfl)) (rfl))) (rfl))
theorem law02_RowsetMinimal_to23 : LoopOK law02_RowsetMinimal_cx (lp (body Tryd.f4) 3) := loopOK_of (id := 23) (sp := law02_RowsetMinimal_sp23) (by kernel_rfl) (by kernel_rfl) (loopTo_of (V := law02_RowsetMinimal_V23) (B := law02_RowsetMinimal_B23) (L := fun n x y => law02_RowsetMinimal_L23 n x.1 x.2.2.1 x.2.2.2.1 x.2.2.2.2.1 y.1) (tr := law02_RowsetMinimal_tr23) (m := fun x y => x.1.length + Int.toNat x.2.2.1 + Int.toNat x.2.2.2.2.1 + y.1.length + 1) fun R K n x y => law02_RowsetMinimal_loop23 R K n x.1 x.2.2.1 x.2.2.2.1 x.2.2.2.2.1 y.1)
theorem law02_RowsetMinimal_round27 {R : Type} (H : List (AV ty) → List (Blk ty) → Option R) (K : Ex → List (AV ty) → List (Blk ty) → Option R) (l : List (List RowID)) (i : Int) (found : Bool) (k : Int) (m : List (List RowID)) : roundK law02_RowsetMinimal_cx (lp (body Tryd.f4) 4) H K [.sl 24 l, .own 416, .lit (.int .i64 i), .lit (.bool found), .lit (.int .i64 k)] [.arr 24 m false] = bif decide (k < Int.ofNat m.length) then bif k != i then bif decide ((0 : Int) ≤ k) && decide (k < Int.ofNat m.length) then bif decide ((0 : Int) ≤ i) && decide (i < Int.ofNat m.length) then obnd (rowset_Subset (m.getD k.toNat default) (m.getD i.toNat default)) (fun r9 => bif r9 then K .ret [.lit (.bool false)] [] else H [.sl 24 l, .own 416, .lit (.int .i64 i), .lit (.bool found), .lit (.int .i64 (IntKind.i64.wrap (k + (1 : Int))))] [.arr 24 m false]) else none else none else H [.sl 24 l, .own 416, .lit (.int .i64 i), .lit (.bool found), .lit (.int .i64 (IntKind.i64.wrap (k + (1 : Int))))] [.arr 24 m false] else K (.exit 8) [.sl 24 l, .own 416, .lit (.int .i64 i), .lit (.bool found)] [.arr 24 m false] := by kernel_rfl
theorem law02_RowsetMinimal_loop27 (R : Type) (K : Ex → List (AV ty) → List (Blk ty) → Option R) : ∀ (n : Nat) (l : List (List RowID)) (i : Int) (found : Bool) (k : Int) (m : List (List RowID)), loopI law02_RowsetMinimal_cx (lp (body Tryd.f4) 4) K n [.sl 24 l, .own 416, .lit (.int .i64 i), .lit (.bool found), .lit (.int .i64 k)] [.arr 24 m false] = out (fun r => treeK K (law02_RowsetMinimal_tr27 r)) (law02_RowsetMinimal_L27 n l i found k m)
  | 0, _, _, _, _, _ => rfl
  | n + 1, l, i, found, k, m => by
    have ih := law02_RowsetMinimal_loop27 R K n
    rw [law02_RowsetMinimal_L27]
    exact (law02_RowsetMinimal_round27 (loopI law02_RowsetMinimal_cx (lp (body Tryd.f4) 4) K n) K l i found k m).trans (out_ite (out_ite (out_ite (out_ite (out_ite (out_ite (rfl) (ih l i found (IntKind.i64.wrap (k + (1 : Int))) m)) (rfl)) (rfl)) (rfl)) (ih l i found (IntKind.i64.wrap (k + (1 : Int))) m)) (rfl))
theorem law02_RowsetMinimal_to27 : LoopOK law02_RowsetMinimal_cx (lp (body Tryd.f4) 4) := loopOK_of (id := 27) (sp := law02_RowsetMinimal_sp27) (by kernel_rfl) (by kernel_rfl) (loopTo_of (V := law02_RowsetMinimal_V27) (B := law02_RowsetMinimal_B27) (L := fun n x y => law02_RowsetMinimal_L27 n x.1 x.2.2.1 x.2.2.2.1 x.2.2.2.2.1 y.1) (tr := law02_RowsetMinimal_tr27) (m := fun x y => x.1.length + Int.toNat x.2.2.1 + Int.toNat x.2.2.2.2.1 + y.1.length + 1) fun R K n x y => law02_RowsetMinimal_loop27 R K n x.1 x.2.2.1 x.2.2.2.1 x.2.2.2.2.1 y.1)
theorem law02_RowsetMinimal_round19 {R : Type} (H : List (AV ty) → List (Blk ty) → Option R) (K : Ex → List (AV ty) → List (Blk ty) → Option R) (l : List (List RowID)) (i : Int) (m : List (List RowID)) : roundK law02_RowsetMinimal_cx (lp (body Tryd.f4) 2) H K [.sl 24 l, .own 416, .lit (.int .i64 i)] [.arr 24 m false] = bif decide (i < Int.ofNat m.length) then obnd (law02_RowsetMinimal_L23 (l.length + i.toNat + Int.toNat (0 : Int) + m.length + (1 : Nat)) l i false (0 : Int) m) (fun r13 => obnd (law02_RowsetMinimal_L27 (r13.fst.length + r13.snd.fst.toNat + Int.toNat (0 : Int) + r13.snd.snd.snd.length + (1 : Nat)) r13.fst r13.snd.fst r13.snd.snd.fst (0 : Int) r13.snd.snd.snd) (fun r12 => bif isL r12 then K .ret [.lit (.bool (getL r12))] [] else bif !(getR r12).snd.snd.fst then K .ret [.lit (.bool false)] [] else H [.sl 24 ((getR r12).fst), .own 416, .lit (.int .i64 (IntKind.i64.wrap ((getR r12).snd.fst + (1 : Int))))] [.arr 24 ((getR r12).snd.snd.snd) false])) else K (.exit 4) [] [] := by kernel_rfl
theorem law02_RowsetMinimal_loop19 (R : Type) (K : Ex → List (AV ty) → List (Blk ty) → Option R) : ∀ (n : Nat) (l : List (List RowID)) (i : Int) (m : List (List RowID)), loopI law02_RowsetMinimal_cx (lp (body Tryd.f4) 2) K n [.sl 24 l, .own 416, .lit (.int .i64 i)] [.arr 24 m false] = out (fun r => treeK K (law02_RowsetMinimal_tr19 r)) (law02_RowsetMinimal_L19 n l i m)
  | 0, _, _, _ => rfl
  | n + 1, l, i, m => by
    have ih := law02_RowsetMinimal_loop19 R K n
    rw [law02_RowsetMinimal_L19]
    exact (law02_RowsetMinimal_round19 (loopI law02_RowsetMinimal_cx (lp (body Tryd.f4) 2) K n) K l i m).trans (out_ite (out_ite (out_ite (out_ite (rfl) (out_ite (rfl) (ih ((getR (law02_RowsetMinimal_L27 ((law02_RowsetMinimal_L23 (l.length + i.toNat + Int.toNat (0 : Int) + m.length + (1 : Nat)) l i false (0 : Int) m).snd.fst.length + (law02_RowsetMinimal_L23 (l.length + i.toNat + Int.toNat (0 : Int) + m.length + (1 : Nat)) l i false (0 : Int) m).snd.snd.fst.toNat + Int.toNat (0 : Int) + (law02_RowsetMinimal_L23 (l.length + i.toNat + Int.toNat (0 : Int) + m.length + (1 : Nat)) l i false (0 : Int) m).snd.snd.snd.snd.length + (1 : Nat)) (law02_RowsetMinimal_L23 (l.length + i.toNat + Int.toNat (0 : Int) + m.length + (1 : Nat)) l i false (0 : Int) m).snd.fst (law02_RowsetMinimal_L23 (l.length + i.toNat + Int.toNat (0 : Int) + m.length + (1 : Nat)) l i false (0 : Int) m).snd.snd.fst (law02_RowsetMinimal_L23 (l.length + i.toNat + Int.toNat (0 : Int) + m.length + (1 : Nat)) l i false (0 : Int) m).snd.snd.snd.fst (0 : Int) (law02_RowsetMinimal_L23 (l.length + i.toNat + Int.toNat (0 : Int) + m.length + (1 : Nat)) l i false (0 : Int) m).snd.snd.snd.snd).snd).fst) (IntKind.i64.wrap ((getR (law02_RowsetMinimal_L27 ((law02_RowsetMinimal_L23 (l.length + i.toNat + Int.toNat (0 : Int) + m.length + (1 : Nat)) l i false (0 : Int) m).snd.fst.length + (law02_RowsetMinimal_L23 (l.length + i.toNat + Int.toNat (0 : Int) + m.length + (1 : Nat)) l i false (0 : Int) m).snd.snd.fst.toNat + Int.toNat (0 : Int) + (law02_RowsetMinimal_L23 (l.length + i.toNat + Int.toNat (0 : Int) + m.length + (1 : Nat)) l i false (0 : Int) m).snd.snd.snd.snd.length + (1 : Nat)) (law02_RowsetMinimal_L23 (l.length + i.toNat + Int.toNat (0 : Int) + m.length + (1 : Nat)) l i false (0 : Int) m).snd.fst (law02_RowsetMinimal_L23 (l.length + i.toNat + Int.toNat (0 : Int) + m.length + (1 : Nat)) l i false (0 : Int) m).snd.snd.fst (law02_RowsetMinimal_L23 (l.length + i.toNat + Int.toNat (0 : Int) + m.length + (1 : Nat)) l i false (0 : Int) m).snd.snd.snd.fst (0 : Int) (law02_RowsetMinimal_L23 (l.length + i.toNat + Int.toNat (0 : Int) + m.length + (1 : Nat)) l i false (0 : Int) m).snd.snd.snd.snd).snd).snd.fst + (1 : Int))) ((getR (law02_RowsetMinimal_L27 ((law02_RowsetMinimal_L23 (l.length + i.toNat + Int.toNat (0 : Int) + m.length + (1 : Nat)) l i false (0 : Int) m).snd.fst.length + (law02_RowsetMinimal_L23 (l.length + i.toNat + Int.toNat (0 : Int) + m.length + (1 : Nat)) l i false (0 : Int) m).snd.snd.fst.toNat + Int.toNat (0 : Int) + (law02_RowsetMinimal_L23 (l.length + i.toNat + Int.toNat (0 : Int) + m.length + (1 : Nat)) l i false (0 : Int) m).snd.snd.snd.snd.length + (1 : Nat)) (law02_RowsetMinimal_L23 (l.length + i.toNat + Int.toNat (0 : Int) + m.length + (1 : Nat)) l i false (0 : Int) m).snd.fst (law02_RowsetMinimal_L23 (l.length + i.toNat + Int.toNat (0 : Int) + m.length + (1 : Nat)) l i false (0 : Int) m).snd.snd.fst (law02_RowsetMinimal_L23 (l.length + i.toNat + Int.toNat (0 : Int) + m.length + (1 : Nat)) l i false (0 : Int) m).snd.snd.snd.fst (0 : Int) (law02_RowsetMinimal_L23 (l.length + i.toNat + Int.toNat (0 : Int) + m.length + (1 : Nat)) l i false (0 : Int) m).snd.snd.snd.snd).snd).snd.snd.snd)))) (rfl)) (rfl)) (rfl))
theorem law02_RowsetMinimal_to19 : LoopOK law02_RowsetMinimal_cx (lp (body Tryd.f4) 2) := loopOK_of (id := 19) (sp := law02_RowsetMinimal_sp19) (by kernel_rfl) (by kernel_rfl) (loopTo_of (V := law02_RowsetMinimal_V19) (B := law02_RowsetMinimal_B19) (L := fun n x y => law02_RowsetMinimal_L19 n x.1 x.2.2.1 y.1) (tr := law02_RowsetMinimal_tr19) (m := fun x y => x.1.length + Int.toNat x.2.2.1 + y.1.length + 1) fun R K n x y => law02_RowsetMinimal_loop19 R K n x.1 x.2.2.1 y.1)
noncomputable def law02_RowsetMinimal (l : List (List RowID)) : Bool × Bool := bnd (ref02_Few l (12 : Int) (12 : Int)) (fun r18 => bif !r18 then (true, true) else bnd (rowset_Minimal l) (fun r17 => bnd (ref02_IsFamily r17) (fun r16 => bif !r16 then (true, false) else bnd (law02_RowsetMinimal_L9 (l.length + Int.toNat (0 : Int) + r17.length + (1 : Nat)) l (0 : Int) r17) (fun r15 => bif isL r15 then (true, getL r15) else bnd (law02_RowsetMinimal_L19 ((getR r15).fst.length + Int.toNat (0 : Int) + (getR r15).snd.length + (1 : Nat)) (getR r15).fst (0 : Int) (getR r15).snd) (fun r14 => bif isL r14 then (true, getL r14) else (true, true)) (false, default)) (false, default)) (false, default)) (false, default)) (false, default)
noncomputable def law02_RowsetMinimal_res (r : Bool) : ARes ty := ⟨[.pure (.lit (.bool r))], []⟩
theorem law02_RowsetMinimal_run (l : List (List RowID)) : runFn law02_RowsetMinimal_cx Tryd.f4 (body Tryd.f4) ⟨[.pure], []⟩ [.pure (.sl 24 l)] = out (fun r => some (law02_RowsetMinimal_res r)) (law02_RowsetMinimal l) := by
  have h : runFn law02_RowsetMinimal_cx Tryd.f4 (body Tryd.f4) ⟨[.pure], []⟩ [.pure (.sl 24 l)] = obnd (ref02_Few l (12 : Int) (12 : Int)) (fun r23 => bif !r23 then some ⟨[.pure (.lit (.bool true))], []⟩ else obnd (rowset_Minimal l) (fun r22 => obnd (ref02_IsFamily r22) (fun r21 => bif !r21 then some ⟨[.pure (.lit (.bool false))], []⟩ else obnd (law02_RowsetMinimal_L9 (l.length + Int.toNat (0 : Int) + r22.length + (1 : Nat)) l (0 : Int) r22) (fun r20 => bif isL r20 then some ⟨[.pure (.lit (.bool (getL r20)))], []⟩ else obnd (law02_RowsetMinimal_L19 ((getR r20).fst.length + Int.toNat (0 : Int) + (getR r20).snd.length + (1 : Nat)) (getR r20).fst (0 : Int) (getR r20).snd) (fun r19 => bif isL r19 then some ⟨[.pure (.lit (.bool (getL r19)))], []⟩ else some ⟨[.pure (.lit (.bool true))], []⟩))))) := by kernel_rfl
  rw [law02_RowsetMinimal]
  exact h.trans (out_ite (out_ite (rfl) (out_ite (out_ite (out_ite (rfl) (out_ite (out_ite (rfl) (out_ite (out_ite (rfl) (rfl)) (rfl))) (rfl))) (rfl)) (rfl))) (rfl))
noncomputable def law02_RowsetMinimal_A : AL base0 (List (List RowID) × Unit) := aCons (aPure (vSl 24)) aNil
noncomputable def law02_RowsetMinimal_spec : Ab.Spec ty := mkSpec law02_RowsetMinimal_A fun x => ((law02_RowsetMinimal x.1).1, law02_RowsetMinimal_res (law02_RowsetMinimal x.1).2)
theorem law02_RowsetMinimal_sound : Sound Tryd.prog base0 4 law02_RowsetMinimal_spec :=
  sound_of_run (cx' := law02_RowsetMinimal_cx) draws base0_ok ⟨⟨rfl, rfl, rfl, rfl, rfl, rfl⟩, rfl⟩ (spec_of [(8, law02_awake_spec), (11, rowset_Subset_spec), (12, ref02_Few_spec), (13, rowset_Minimal_spec), (14, ref02_IsFamily_spec)] ⟨(law02_awake_sound), (rowset_Subset_sound.nodr), (ref02_Few_sound.nodr), (rowset_Minimal_sound.nodr), (ref02_IsFamily_sound.nodr), trivial⟩) Tryd.call4 Tryd.func4 (c := body Tryd.f4) (by kernel_rfl) (loopsOK_of (l := [lp (body Tryd.f4) 0, lp (body Tryd.f4) 1, lp (body Tryd.f4) 2, lp (body Tryd.f4) 3, lp (body Tryd.f4) 4]) (by kernel_rfl) ⟨law02_RowsetMinimal_to9, law02_RowsetMinimal_to13, law02_RowsetMinimal_to19, law02_RowsetMinimal_to23, law02_RowsetMinimal_to27, trivial⟩) (sg := ⟨[.pure], []⟩) (A := law02_RowsetMinimal_A) (res := law02_RowsetMinimal_res) (F := fun x => law02_RowsetMinimal x.1) (fun x => law02_RowsetMinimal_run x.1) (fun _ => by kernel_rfl) (by kernel_rfl)
end Go.Proofs.YteopikhooiallaaDoor
/- Functions of the program as plain functions, with their contracts. Printed by program. -/
set_option autoImplicit false
set_option linter.unusedVariables false
set_option linter.unusedSimpArgs false
namespace Go.Proofs.YteopikhooiallaaDoor
open Go Go.Ab
/-! ### lineage/rowset.Product -/
noncomputable def rowset_Product_L6 : Nat → List (List RowID) → List RowID → List (List RowID) → Int → Int → List (List RowID) → Int → Int → List (List RowID) → Bool × (List (List RowID) × List (List RowID) × Int × Int × List (List RowID))
  | 0, _, _, _, _, _, _, _, _, _ => (false, default)
  | n + 1, b, x_, t10, t11, t12, t16, t17, t18, out_ => bif decide (t18 < t17) then bif decide ((0 : Int) ≤ t18) && decide (t18 < Int.ofNat t16.length) then bnd (rowset_Union x_ (t16.getD t18.toNat default)) (fun r2 => bif decide ((out_.length + [r2].length) * (24 : Nat) ≤ reach) then rowset_Product_L6 n b x_ t10 t11 t12 t16 t17 (IntKind.i64.wrap (t18 + (1 : Int))) (out_ ++ [r2]) else (false, default)) (false, default) else (false, default) else (true, (b, t10, t11, t12, out_))
noncomputable def rowset_Product_tr6 (r : List (List RowID) × List (List RowID) × Int × Int × List (List RowID)) : LTree ty := .done (.exit 2) [.sl 24 r.1, .own 128, .sl 24 r.2.1, .lit (.int .i64 r.2.2.1), .lit (.int .i64 r.2.2.2.1)] [.arr 24 r.2.2.2.2 false]
noncomputable def rowset_Product_V6 : LL ty (List (List RowID) × Unit × List RowID × List (List RowID) × Int × Int × List (List RowID) × Int × Int × Unit) := llCons (lSl 24) (llCons (lOwn 128) (llCons (lSl 23) (llCons (lSl 24) (llCons (lInt .i64) (llCons (lInt .i64) (llCons (lSl 24) (llCons (lInt .i64) (llCons (lInt .i64) llNil))))))))
noncomputable def rowset_Product_B6 : BL ty (List (List RowID) × Unit) := bArr 24 false (bNil)
noncomputable def rowset_Product_sp6 : LSpec ty := mkLoop rowset_Product_V6 rowset_Product_B6 fun x y => ((rowset_Product_L6 (x.1.length + x.2.2.1.length + x.2.2.2.1.length + Int.toNat x.2.2.2.2.1 + Int.toNat x.2.2.2.2.2.1 + x.2.2.2.2.2.2.1.length + Int.toNat x.2.2.2.2.2.2.2.1 + Int.toNat x.2.2.2.2.2.2.2.2.1 + y.1.length + 1) x.1 x.2.2.1 x.2.2.2.1 x.2.2.2.2.1 x.2.2.2.2.2.1 x.2.2.2.2.2.2.1 x.2.2.2.2.2.2.2.1 x.2.2.2.2.2.2.2.2.1 y.1).1, rowset_Product_tr6 (rowset_Product_L6 (x.1.length + x.2.2.1.length + x.2.2.2.1.length + Int.toNat x.2.2.2.2.1 + Int.toNat x.2.2.2.2.2.1 + x.2.2.2.2.2.2.1.length + Int.toNat x.2.2.2.2.2.2.2.1 + Int.toNat x.2.2.2.2.2.2.2.2.1 + y.1.length + 1) x.1 x.2.2.1 x.2.2.2.1 x.2.2.2.2.1 x.2.2.2.2.2.1 x.2.2.2.2.2.2.1 x.2.2.2.2.2.2.2.1 x.2.2.2.2.2.2.2.2.1 y.1).2)
noncomputable def rowset_Product_L3 : Nat → List (List RowID) → List (List RowID) → Int → Int → List (List RowID) → Bool × List (List RowID)
  | 0, _, _, _, _, _ => (false, default)
  | n + 1, b, t10, t11, t12, out_ => bif decide (t12 < t11) then bif decide ((0 : Int) ≤ t12) && decide (t12 < Int.ofNat t10.length) then bnd (rowset_Product_L6 (b.length + List.length (t10.getD t12.toNat default) + t10.length + t11.toNat + t12.toNat + b.length + (Int.ofNat b.length).toNat + Int.toNat (0 : Int) + out_.length + (1 : Nat)) b (t10.getD t12.toNat default) t10 t11 t12 b (Int.ofNat b.length) (0 : Int) out_) (fun r4 => rowset_Product_L3 n (r4.fst) (r4.snd.fst) (r4.snd.snd.fst) (IntKind.i64.wrap (r4.snd.snd.snd.fst + (1 : Int))) (r4.snd.snd.snd.snd)) (false, default) else (false, default) else (true, out_)
noncomputable def rowset_Product_tr3 (r : List (List RowID)) : LTree ty := .done (.exit 0) [.own 128] [.arr 24 r false]
noncomputable def rowset_Product_V3 : LL ty (List (List RowID) × Unit × List (List RowID) × Int × Int × Unit) := llCons (lSl 24) (llCons (lOwn 128) (llCons (lSl 24) (llCons (lInt .i64) (llCons (lInt .i64) llNil))))
noncomputable def rowset_Product_B3 : BL ty (List (List RowID) × Unit) := bArr 24 false (bNil)
noncomputable def rowset_Product_sp3 : LSpec ty := mkLoop rowset_Product_V3 rowset_Product_B3 fun x y => ((rowset_Product_L3 (x.1.length + x.2.2.1.length + Int.toNat x.2.2.2.1 + Int.toNat x.2.2.2.2.1 + y.1.length + 1) x.1 x.2.2.1 x.2.2.2.1 x.2.2.2.2.1 y.1).1, rowset_Product_tr3 (rowset_Product_L3 (x.1.length + x.2.2.1.length + Int.toNat x.2.2.2.1 + Int.toNat x.2.2.2.2.1 + y.1.length + 1) x.1 x.2.2.1 x.2.2.2.1 x.2.2.2.2.1 y.1).2)
noncomputable def rowset_Product_cx : Cx ty := { base with nt := 32, spec := fun g => List.lookup g [(17, rowset_Union_spec), (24, rowset_Family_spec)], io := fun g => (List.lookup g []).getD [], head := fun i => (List.lookup i [(3, [(1, .keep), (5, .own 24), (10, .keep), (11, .keep), (12, .keep)]), (6, [(1, .keep), (5, .own 24), (7, .keep), (10, .keep), (11, .keep), (12, .keep), (16, .keep), (17, .keep), (18, .keep)])]).getD [], out := outOf [(3, 1, [(5, .keep)]), (6, 3, [(1, .keep), (5, .keep), (10, .keep), (11, .keep), (12, .keep)])], loops := fun i => List.lookup i [(6, rowset_Product_sp6), (3, rowset_Product_sp3)] }
theorem rowset_Product_round6 {R : Type} (H : List (AV ty) → List (Blk ty) → Option R) (K : Ex → List (AV ty) → List (Blk ty) → Option R) (b : List (List RowID)) (x_ : List RowID) (t10 : List (List RowID)) (t11 : Int) (t12 : Int) (t16 : List (List RowID)) (t17 : Int) (t18 : Int) (out_ : List (List RowID)) : roundK rowset_Product_cx (lp (body Tryd.f22) 1) H K [.sl 24 b, .own 128, .sl 23 x_, .sl 24 t10, .lit (.int .i64 t11), .lit (.int .i64 t12), .sl 24 t16, .lit (.int .i64 t17), .lit (.int .i64 t18)] [.arr 24 out_ false] = bif decide (t18 < t17) then bif decide ((0 : Int) ≤ t18) && decide (t18 < Int.ofNat t16.length) then obnd (rowset_Union x_ (t16.getD t18.toNat default)) (fun r3 => bif decide ((out_.length + [r3].length) * (24 : Nat) ≤ reach) then H [.sl 24 b, .own 128, .sl 23 x_, .sl 24 t10, .lit (.int .i64 t11), .lit (.int .i64 t12), .sl 24 t16, .lit (.int .i64 t17), .lit (.int .i64 (IntKind.i64.wrap (t18 + (1 : Int))))] [.arr 24 (out_ ++ [r3]) false] else none) else none else K (.exit 2) [.sl 24 b, .own 128, .sl 24 t10, .lit (.int .i64 t11), .lit (.int .i64 t12)] [.arr 24 out_ false] := by kernel_rfl
theorem rowset_Product_loop6 (R : Type) (K : Ex → List (AV ty) → List (Blk ty) → Option R) : ∀ (n : Nat) (b : List (List RowID)) (x_ : List RowID) (t10 : List (List RowID)) (t11 : Int) (t12 : Int) (t16 : List (List RowID)) (t17 : Int) (t18 : Int) (out_ : List (List RowID)), loopI rowset_Product_cx (lp (body Tryd.f22) 1) K n [.sl 24 b, .own 128, .sl 23 x_, .sl 24 t10, .lit (.int .i64 t11), .lit (.int .i64 t12), .sl 24 t16, .lit (.int .i64 t17), .lit (.int .i64 t18)] [.arr 24 out_ false] = out (fun r => treeK K (rowset_Product_tr6 r)) (rowset_Product_L6 n b x_ t10 t11 t12 t16 t17 t18 out_)
  | 0, _, _, _, _, _, _, _, _, _ => rfl
  | n + 1, b, x_, t10, t11, t12, t16, t17, t18, out_ => by
    have ih := rowset_Product_loop6 R K n
    rw [rowset_Product_L6]
    exact (rowset_Product_round6 (loopI rowset_Product_cx (lp (body Tryd.f22) 1) K n) K b x_ t10 t11 t12 t16 t17 t18 out_).trans (out_ite (out_ite (out_ite (out_ite (ih b x_ t10 t11 t12 t16 t17 (IntKind.i64.wrap (t18 + (1 : Int))) (out_ ++ [(rowset_Union x_ (t16.getD t18.toNat default)).snd])) (rfl)) (rfl)) (rfl)) (rfl))
theorem rowset_Product_to6 : LoopOK rowset_Product_cx (lp (body Tryd.f22) 1) := loopOK_of (id := 6) (sp := rowset_Product_sp6) (by kernel_rfl) (by kernel_rfl) (loopTo_of (V := rowset_Product_V6) (B := rowset_Product_B6) (L := fun n x y => rowset_Product_L6 n x.1 x.2.2.1 x.2.2.2.1 x.2.2.2.2.1 x.2.2.2.2.2.1 x.2.2.2.2.2.2.1 x.2.2.2.2.2.2.2.1 x.2.2.2.2.2.2.2.2.1 y.1) (tr := rowset_Product_tr6) (m := fun x y => x.1.length + x.2.2.1.length + x.2.2.2.1.length + Int.toNat x.2.2.2.2.1 + Int.toNat x.2.2.2.2.2.1 + x.2.2.2.2.2.2.1.length + Int.toNat x.2.2.2.2.2.2.2.1 + Int.toNat x.2.2.2.2.2.2.2.2.1 + y.1.length + 1) fun R K n x y => rowset_Product_loop6 R K n x.1 x.2.2.1 x.2.2.2.1 x.2.2.2.2.1 x.2.2.2.2.2.1 x.2.2.2.2.2.2.1 x.2.2.2.2.2.2.2.1 x.2.2.2.2.2.2.2.2.1 y.1)
theorem rowset_Product_round3 {R : Type} (H : List (AV ty) → List (Blk ty) → Option R) (K : Ex → List (AV ty) → List (Blk ty) → Option R) (b : List (List RowID)) (t10 : List (List RowID)) (t11 : Int) (t12 : Int) (out_ : List (List RowID)) : roundK rowset_Product_cx (lp (body Tryd.f22) 0) H K [.sl 24 b, .own 128, .sl 24 t10, .lit (.int .i64 t11), .lit (.int .i64 t12)] [.arr 24 out_ false] = bif decide (t12 < t11) then bif decide ((0 : Int) ≤ t12) && decide (t12 < Int.ofNat t10.length) then obnd (rowset_Product_L6 (b.length + List.length (t10.getD t12.toNat default) + t10.length + t11.toNat + t12.toNat + b.length + (Int.ofNat b.length).toNat + Int.toNat (0 : Int) + out_.length + (1 : Nat)) b (t10.getD t12.toNat default) t10 t11 t12 b (Int.ofNat b.length) (0 : Int) out_) (fun r5 => H [.sl 24 (r5.fst), .own 128, .sl 24 (r5.snd.fst), .lit (.int .i64 (r5.snd.snd.fst)), .lit (.int .i64 (IntKind.i64.wrap (r5.snd.snd.snd.fst + (1 : Int))))] [.arr 24 (r5.snd.snd.snd.snd) false]) else none else K (.exit 0) [.own 128] [.arr 24 out_ false] := by kernel_rfl
theorem rowset_Product_loop3 (R : Type) (K : Ex → List (AV ty) → List (Blk ty) → Option R) : ∀ (n : Nat) (b : List (List RowID)) (t10 : List (List RowID)) (t11 : Int) (t12 : Int) (out_ : List (List RowID)), loopI rowset_Product_cx (lp (body Tryd.f22) 0) K n [.sl 24 b, .own 128, .sl 24 t10, .lit (.int .i64 t11), .lit (.int .i64 t12)] [.arr 24 out_ false] = out (fun r => treeK K (rowset_Product_tr3 r)) (rowset_Product_L3 n b t10 t11 t12 out_)
  | 0, _, _, _, _, _ => rfl
  | n + 1, b, t10, t11, t12, out_ => by
    have ih := rowset_Product_loop3 R K n
    rw [rowset_Product_L3]
    exact (rowset_Product_round3 (loopI rowset_Product_cx (lp (body Tryd.f22) 0) K n) K b t10 t11 t12 out_).trans (out_ite (out_ite (out_ite (ih ((rowset_Product_L6 (b.length + List.length (t10.getD t12.toNat default) + t10.length + t11.toNat + t12.toNat + b.length + (Int.ofNat b.length).toNat + Int.toNat (0 : Int) + out_.length + (1 : Nat)) b (t10.getD t12.toNat default) t10 t11 t12 b (Int.ofNat b.length) (0 : Int) out_).snd.fst) ((rowset_Product_L6 (b.length + List.length (t10.getD t12.toNat default) + t10.length + t11.toNat + t12.toNat + b.length + (Int.ofNat b.length).toNat + Int.toNat (0 : Int) + out_.length + (1 : Nat)) b (t10.getD t12.toNat default) t10 t11 t12 b (Int.ofNat b.length) (0 : Int) out_).snd.snd.fst) ((rowset_Product_L6 (b.length + List.length (t10.getD t12.toNat default) + t10.length + t11.toNat + t12.toNat + b.length + (Int.ofNat b.length).toNat + Int.toNat (0 : Int) + out_.length + (1 : Nat)) b (t10.getD t12.toNat default) t10 t11 t12 b (Int.ofNat b.length) (0 : Int) out_).snd.snd.snd.fst) (IntKind.i64.wrap ((rowset_Product_L6 (b.length + List.length (t10.getD t12.toNat default) + t10.length + t11.toNat + t12.toNat + b.length + (Int.ofNat b.length).toNat + Int.toNat (0 : Int) + out_.length + (1 : Nat)) b (t10.getD t12.toNat default) t10 t11 t12 b (Int.ofNat b.length) (0 : Int) out_).snd.snd.snd.snd.fst + (1 : Int))) ((rowset_Product_L6 (b.length + List.length (t10.getD t12.toNat default) + t10.length + t11.toNat + t12.toNat + b.length + (Int.ofNat b.length).toNat + Int.toNat (0 : Int) + out_.length + (1 : Nat)) b (t10.getD t12.toNat default) t10 t11 t12 b (Int.ofNat b.length) (0 : Int) out_).snd.snd.snd.snd.snd)) (rfl)) (rfl)) (rfl))
theorem rowset_Product_to3 : LoopOK rowset_Product_cx (lp (body Tryd.f22) 0) := loopOK_of (id := 3) (sp := rowset_Product_sp3) (by kernel_rfl) (by kernel_rfl) (loopTo_of (V := rowset_Product_V3) (B := rowset_Product_B3) (L := fun n x y => rowset_Product_L3 n x.1 x.2.2.1 x.2.2.2.1 x.2.2.2.2.1 y.1) (tr := rowset_Product_tr3) (m := fun x y => x.1.length + x.2.2.1.length + Int.toNat x.2.2.2.1 + Int.toNat x.2.2.2.2.1 + y.1.length + 1) fun R K n x y => rowset_Product_loop3 R K n x.1 x.2.2.1 x.2.2.2.1 x.2.2.2.2.1 y.1)
noncomputable def rowset_Product (a : List (List RowID)) (b : List (List RowID)) : Bool × List (List RowID) := bnd (rowset_Product_L3 (b.length + a.length + (Int.ofNat a.length).toNat + Int.toNat (0 : Int) + (0 : Nat) + (1 : Nat)) b a (Int.ofNat a.length) (0 : Int) []) (fun r7 => bnd (rowset_Family r7) (fun r6 => (true, r6)) (false, default)) (false, default)
noncomputable def rowset_Product_res (r : List (List RowID)) : ARes ty := ⟨[.own 24 r], []⟩
theorem rowset_Product_run (a : List (List RowID)) (b : List (List RowID)) : runFn rowset_Product_cx Tryd.f22 (body Tryd.f22) ⟨[.own 24], []⟩ [.pure (.sl 24 a), .pure (.sl 24 b)] = out (fun r => some (rowset_Product_res r)) (rowset_Product a b) := by
  have h : runFn rowset_Product_cx Tryd.f22 (body Tryd.f22) ⟨[.own 24], []⟩ [.pure (.sl 24 a), .pure (.sl 24 b)] = obnd (rowset_Product_L3 (b.length + a.length + (Int.ofNat a.length).toNat + Int.toNat (0 : Int) + (0 : Nat) + (1 : Nat)) b a (Int.ofNat a.length) (0 : Int) []) (fun r9 => obnd (rowset_Family r9) (fun r8 => some ⟨[.own 24 (r8)], []⟩)) := by kernel_rfl
  rw [rowset_Product]
  exact h.trans (out_ite (out_ite (rfl) (rfl)) (rfl))
noncomputable def rowset_Product_A : AL base (List (List RowID) × List (List RowID) × Unit) := aCons (aPure (vSl 24)) (aCons (aPure (vSl 24)) aNil)
noncomputable def rowset_Product_spec : Ab.Spec ty := mkSpec rowset_Product_A fun x => ((rowset_Product x.1 x.2.1).1, rowset_Product_res (rowset_Product x.1 x.2.1).2)
theorem rowset_Product_sound : Sound Tryd.prog base 22 rowset_Product_spec :=
  sound_of_run (cx' := rowset_Product_cx) draws base_ok ⟨⟨rfl, rfl, rfl, rfl, rfl, rfl⟩, rfl⟩ (spec_of [(17, rowset_Union_spec), (24, rowset_Family_spec)] ⟨(rowset_Union_sound), (rowset_Family_sound), trivial⟩) Tryd.call22 Tryd.func22 (c := body Tryd.f22) (by kernel_rfl) (loopsOK_of (l := [lp (body Tryd.f22) 0, lp (body Tryd.f22) 1]) (by kernel_rfl) ⟨rowset_Product_to3, rowset_Product_to6, trivial⟩) (sg := ⟨[.own 24], []⟩) (A := rowset_Product_A) (res := rowset_Product_res) (F := fun x => rowset_Product x.1 x.2.1) (fun x => rowset_Product_run x.1 x.2.1) (fun _ => by kernel_rfl) (by kernel_rfl)
end Go.Proofs.YteopikhooiallaaDoor
/- What the printed functions compute: families of sets, their minimal sets and products. -/
set_option autoImplicit false
set_option linter.unusedVariables false
set_option linter.unusedSimpArgs false
namespace Go.Proofs.YteopikhooiallaaDoor
open Go Go.Ab

/-- The family of the sets of a list. -/
abbrev fam (l : List (List RowID)) : List (List RowID) := snorm cS (l.map nR)
def sub (a b : List RowID) : Bool := a.all fun x => decide (x ∈ b)
theorem sub_iff {a b : List RowID} : sub a b = true ↔ ∀ x ∈ a, x ∈ b := by simp [sub]
theorem mem_fam {l : List (List RowID)} {z : List RowID} : z ∈ fam l ↔ ∃ s ∈ l, nR s = z := by
  rw [snorm_mem cS_ord, List.mem_map]
theorem fam_asc (l : List (List RowID)) : SAsc cS (fam l) := snorm_asc cS_ord _
theorem fam_set {l : List (List RowID)} {z : List RowID} (h : z ∈ fam l) : SAsc cR z := by
  obtain ⟨s, _, rfl⟩ := mem_fam.1 h
  exact snorm_asc cR_ord s
theorem fam_len (l : List (List RowID)) : (fam l).length ≤ l.length := by
  have := snorm_length cS_ord (l.map nR)
  simpa using this
theorem nR_len (l : List RowID) : (nR l).length ≤ l.length := snorm_length cR_ord l
theorem nR_mem {l : List RowID} {z : RowID} : z ∈ nR l ↔ z ∈ l := snorm_mem cR_ord l z
theorem nR_congr {l l' : List RowID} (h : ∀ z, z ∈ l ↔ z ∈ l') : nR l = nR l' := snorm_congr cR_ord h
theorem nR_self {l : List RowID} (h : SAsc cR l) : nR l = l := snorm_self cR_ord h
theorem fam_small {l : List (List RowID)} {k : Nat} (h : ∀ s ∈ l, s.length ≤ k) : ∀ s ∈ fam l, s.length ≤ k := fun s hs => by
  obtain ⟨t, ht, rfl⟩ := mem_fam.1 hs
  exact Nat.le_trans (nR_len t) (h t ht)

theorem Family_loop (l : List (List RowID)) (hl : l.length ≤ 1000000) (hz : ∀ s ∈ l, s.length ≤ 1000000) : ∀ (n i : Nat) (o : List (List RowID)), l.length < i + n → i ≤ l.length → o.length ≤ i → rowset_Family_L3 n l l.length i o = (true, o ++ (l.drop i).map nR)
  | 0, i, o, h, h2, h3 => by omega
  | n + 1, i, o, h, h2, h3 => by
    rw [rowset_Family_L3]
    by_cases hi : i < l.length
    · have e1 : (o.length + 1) * 24 ≤ reach := reach_of (by omega) (by omega)
      simp only [Int.ofNat_eq_natCast, lt_nat, le0_nat, decide_true, decide_false, Bool.and_self, Bool.true_and, Bool.and_true, cond_true, cond_false, Int.toNat_natCast, eqR, eqR', Bool.not_true, Bool.not_false, bnd, hi, rowset_Normalize_eq _ (hz _ (getD_mem hi)), List.length_singleton, e1]
      rw [wrap_succ (by omega), drop_lt hi, Family_loop l hl hz n (i + 1) _ (by omega) (by omega) (by simp; omega)]
      simp
    · simp only [Int.ofNat_eq_natCast, lt_nat, le0_nat, decide_true, decide_false, Bool.and_self, Bool.true_and, Bool.and_true, cond_true, cond_false, Int.toNat_natCast, eqR, eqR', Bool.not_true, Bool.not_false, bnd, hi, drop_ge hi]; simp
theorem rowset_Family_eq (l : List (List RowID)) (hl : l.length ≤ 1000000) (hz : ∀ s ∈ l, s.length ≤ 1000000) : rowset_Family l = (true, fam l) := by
  unfold rowset_Family
  rw [show (0 : Int) = ((0 : Nat) : Int) from rfl, show Int.ofNat l.length = (l.length : Int) from rfl, Family_loop l hl hz _ 0 [] (by simp; omega) (by omega) (by simp)]
  simp only [bnd, cond_true, List.drop_zero, List.nil_append]
  have hz' : ∀ z ∈ l.map nR, z.length ≤ 1000000 := fun z hz'' => by
    obtain ⟨s, hs, rfl⟩ := List.mem_map.1 hz''
    exact Nat.le_trans (nR_len s) (hz s hs)
  have ok : SortOK (fun a b => rowset_compareSets a b) (l.map nR) := sortOK_of cS_ord (by simp; omega) fun x hx y hy => rowset_compareSets_eq x y (hz' x hx) (hz' y hy)
  have e : slices_SortFunc_LLapi_RowID_Lapi_RowID (l.map nR) = (true, isort (fun a b => rowset_compareSets a b) (l.map nR)) := by
    unfold slices_SortFunc_LLapi_RowID_Lapi_RowID sortFunc
    rw [decide_eq_true ok]
  rw [e]
  simp only [cond_true]
  rw [slices_CompactFunc_eq _ (fun z h => hz' z ((isort_perm _ _).mem_iff.1 h)) (by rw [(isort_perm _ _).length_eq]; simpa using hl)]
  simp only [cond_true]
  rw [adj_isort cS_ord (fun x y => by simp) ok fun x hx y hy => by rw [rowset_compareSets_eq x y (hz' x hx) (hz' y hy)]]

/-! ### minimal sets -/
theorem indices_loop (m : Nat) (hm : m ≤ 1000000) : ∀ (n i : Nat) (o : List Int), m < i + n → i ≤ m → o.length = m → o.take i = (nums m).take i → rowset_indices_L3 n m i o = (true, nums m)
  | 0, i, o, h, h2, h3, h4 => by omega
  | n + 1, i, o, h, h2, h3, h4 => by
    rw [rowset_indices_L3]
    by_cases hi : i < m
    · have hi' : i < o.length := by omega
      simp only [Int.ofNat_eq_natCast, lt_nat, le0_nat, decide_true, decide_false, Bool.and_self, Bool.true_and, Bool.and_true, cond_true, cond_false, Int.toNat_natCast, eqR, eqR', Bool.not_true, Bool.not_false, bnd, hi, hi']
      rw [wrap_succ (by omega)]
      refine indices_loop m hm n (i + 1) _ (by omega) (by omega) (by simpa using h3) ?_
      rw [take_set_succ _ hi', h4, take_succ_getD (by rw [nums_len]; exact hi), nums_get hi]
    · simp only [Int.ofNat_eq_natCast, lt_nat, le0_nat, decide_true, decide_false, Bool.and_self, Bool.true_and, Bool.and_true, cond_true, cond_false, Int.toNat_natCast, eqR, eqR', Bool.not_true, Bool.not_false, bnd, hi]
      have e : i = m := by omega
      subst e
      rw [List.take_of_length_le (by omega), List.take_of_length_le (by rw [nums_len]; omega)] at h4
      rw [h4]
theorem rowset_indices_eq (m : Nat) (hm : m ≤ 1000000) : rowset_indices (m : Int) = (true, nums m) := by
  unfold rowset_indices
  have h1 : decide ((0 : Int) ≤ (m : Int)) = true := le0_nat m
  have h2 : decide ((m : Int) ≤ (m : Int)) = true := by simp
  have h3 : decide ((m : Int) * Int.ofNat 8 ≤ Int.ofNat reach) = true := by
    have : m * 8 ≤ reach := reach_of (by omega) (by omega)
    simp only [decide_eq_true_eq, Int.ofNat_eq_natCast]
    omega
  have h4 : decide ((m : Int) ≤ Int.ofNat reach) = true := by
    have : m * 1 ≤ reach := reach_of (by omega) (by omega)
    simp only [decide_eq_true_eq, Int.ofNat_eq_natCast]
    omega
  rw [h1, h2, h3, h4]
  simp only [Bool.and_self, cond_true, Int.toNat_natCast, List.length_replicate, Int.ofNat_eq_natCast]
  rw [show (0 : Int) = ((0 : Nat) : Int) from rfl, indices_loop m hm _ 0 _ (by simp; omega) (by omega) (by simp) (by simp)]
  rfl
theorem Minimal_c1_eq (k i : Nat) (al : List (List RowID)) (s : List RowID) (hk : k < al.length) (hz : ∀ t ∈ al, t.length ≤ 1000000) (hs : s.length ≤ 1000000) : rowset_Minimal_c1 k i al s = (true, decide (k ≠ i) && sub (al.getD k default) s) := by
  unfold rowset_Minimal_c1
  rw [bne_nat]
  by_cases h : k = i
  · simp [h]
  · simp only [Int.ofNat_eq_natCast, lt_nat, le0_nat, decide_true, decide_false, Bool.and_self, Bool.true_and, Bool.and_true, cond_true, cond_false, Int.toNat_natCast, eqR, eqR', Bool.not_true, Bool.not_false, bnd, h, hk, ne_eq, not_false_eq_true, rowset_Subset_eq _ _ (hz _ (getD_mem hk)) hs]
    rfl
theorem IndexInt_loop (al : List (List RowID)) (s : List RowID) (j : Nat) (hl : al.length ≤ 1000000) (hz : ∀ t ∈ al, t.length ≤ 1000000) (hs : s.length ≤ 1000000) : ∀ (n i : Nat), al.length < i + n → i ≤ al.length →
    ∃ r, slices_IndexFunc_Lint_int_L2 n (nums al.length) j al s al.length i = (true, r) ∧ (((∃ k : Nat, i ≤ k ∧ k < al.length ∧ k ≠ j ∧ sub (al.getD k default) s = true) ∧ ∃ k : Nat, r = .inl (k : Int)) ∨ ((∀ k : Nat, i ≤ k → k < al.length → k ≠ j → sub (al.getD k default) s = false) ∧ r = .inr ()))
  | 0, i, h, h2 => by omega
  | n + 1, i, h, h2 => by
    rw [slices_IndexFunc_Lint_int_L2]
    by_cases hi : i < al.length
    · simp only [Int.ofNat_eq_natCast, lt_nat, le0_nat, hi, nums_len, decide_true, Bool.and_self, cond_true, Int.toNat_natCast, nums_get hi, Minimal_c1_eq i j al s hi hz hs, bnd]
      obtain ⟨r, h1, h3⟩ := IndexInt_loop al s j hl hz hs n (i + 1) (by omega) (by omega)
      rw [wrap_succ (by omega), h1]
      by_cases hp : i ≠ j ∧ sub (al.getD i default) s = true
      · refine ⟨.inl (i : Int), by simp only [hp.1, hp.2, ne_eq, not_false_eq_true, decide_true, Bool.and_self, cond_true], .inl ⟨⟨i, Nat.le_refl _, hi, hp.1, hp.2⟩, i, rfl⟩⟩
      · have e : (decide (i ≠ j) && sub (al.getD i default) s) = false := by
          cases hb : (decide (i ≠ j) && sub (al.getD i default) s) with
          | false => rfl
          | true => rw [Bool.and_eq_true, decide_eq_true_eq] at hb; exact absurd hb hp
        refine ⟨r, by simp only [e, cond_false], ?_⟩
        rcases h3 with ⟨⟨k, h4, h5, h6, h7⟩, h8⟩ | ⟨h4, rfl⟩
        · exact .inl ⟨⟨k, by omega, h5, h6, h7⟩, h8⟩
        · refine .inr ⟨fun k h5 h6 h7 => ?_, rfl⟩
          by_cases hk : k = i
          · subst hk
            cases hb : sub (al.getD k default) s with
            | false => rfl
            | true => exact absurd ⟨h7, hb⟩ hp
          · exact h4 k (by omega) h6 h7
    · simp only [Int.ofNat_eq_natCast, lt_nat, hi, decide_false, cond_false]
      exact ⟨_, rfl, .inr ⟨fun k h5 h6 => by omega, rfl⟩⟩
/-- Includes the set no other one. -/
def least (al : List (List RowID)) (s : List RowID) : Bool := al.all fun t => !(decide (t ≠ s) && sub t s)
theorem least_iff {al : List (List RowID)} {s : List RowID} : least al s = true ↔ ∀ t ∈ al, (∀ x ∈ t, x ∈ s) → t = s := by
  unfold least
  rw [List.all_eq_true]
  constructor
  · intro h t ht hs
    have := h t ht
    rw [sub_iff.2 hs] at this
    simpa using this
  · intro h t ht
    by_cases hs : sub t s = true
    · have := h t ht (sub_iff.1 hs)
      simp [this]
    · simp [hs]
theorem nodup_getD {al : List (List RowID)} (hn : al.Nodup) {i k : Nat} (hi : i < al.length) (hk : k < al.length) (h : al.getD k default = al.getD i default) : k = i := by
  rw [List.getD_eq_getElem?_getD, List.getElem?_eq_getElem hk, List.getD_eq_getElem?_getD, List.getElem?_eq_getElem hi] at h
  exact (List.getElem_inj hn).1 h
theorem ContainsInt_eq (al : List (List RowID)) (hn : al.Nodup) (j : Nat) (hj : j < al.length) (hl : al.length ≤ 1000000) (hz : ∀ t ∈ al, t.length ≤ 1000000) :
    slices_ContainsFunc_Lint_int (nums al.length) j al (al.getD j default) = (true, !least al (al.getD j default)) := by
  have hs := hz _ (getD_mem hj)
  have h : ∃ k : Int, slices_IndexFunc_Lint_int (nums al.length) j al (al.getD j default) = (true, k) ∧ (0 ≤ k ↔ least al (al.getD j default) = false) := by
    unfold slices_IndexFunc_Lint_int
    obtain ⟨r, h1, h2⟩ := IndexInt_loop al (al.getD j default) j hl hz hs ((nums al.length).length + (j : Int).toNat + al.length + (al.getD j default).length + (Int.ofNat (nums al.length).length).toNat + Int.toNat 0 + 1) 0 (by simp; omega) (by omega)
    rw [show (0 : Int) = ((0 : Nat) : Int) from rfl] at *
    rw [show Int.ofNat (nums al.length).length = (al.length : Int) from by rw [nums_len]; rfl] at *
    rw [h1]
    rcases h2 with ⟨⟨k, _, h3, h4, h5⟩, m, rfl⟩ | ⟨h3, rfl⟩
    · refine ⟨(m : Int), rfl, ?_⟩
      have : least al (al.getD j default) = false := by
        cases hb : least al (al.getD j default) with
        | false => rfl
        | true =>
          have := least_iff.1 hb _ (getD_mem h3) (sub_iff.1 h5)
          exact absurd (nodup_getD hn hj h3 this) h4
      exact ⟨fun _ => this, fun _ => by omega⟩
    · refine ⟨-1, rfl, ?_⟩
      have : least al (al.getD j default) = true := by
        rw [least_iff]
        intro t ht hsub
        obtain ⟨k, hk, e⟩ := List.getElem_of_mem ht
        have e' : al.getD k default = t := by rw [List.getD_eq_getElem?_getD, List.getElem?_eq_getElem hk]; exact e
        by_cases hkj : k = j
        · subst hkj; exact e'.symm
        · have := h3 k (Nat.zero_le _) hk hkj
          rw [e', sub_iff.2 hsub] at this
          cases this
      exact ⟨fun h => by omega, fun h => by rw [this] at h; cases h⟩
  obtain ⟨k, h1, h2⟩ := h
  unfold slices_ContainsFunc_Lint_int
  rw [h1]
  simp only [bnd, cond_true]
  congr 1
  cases hb : least al (al.getD j default) with
  | true =>
    have : ¬ 0 ≤ k := fun h => by rw [h2.1 h] at hb; cases hb
    simp; omega
  | false => simp [h2.2 hb]
theorem Minimal_loop (al : List (List RowID)) (hn : al.Nodup) (hl : al.length ≤ 1000000) (hz : ∀ t ∈ al, t.length ≤ 1000000) : ∀ (n i : Nat) (o : List (List RowID)), al.length < i + n → i ≤ al.length → o.length ≤ i →
    rowset_Minimal_L4 n al.length i o al = (true, o ++ (al.drop i).filter (least al))
  | 0, i, o, h, h2, h3 => by omega
  | n + 1, i, o, h, h2, h3 => by
    rw [rowset_Minimal_L4]
    by_cases hi : i < al.length
    · have e1 : (o.length + 1) * 24 ≤ reach := reach_of (by omega) (by omega)
      simp only [Int.ofNat_eq_natCast, lt_nat, le0_nat, decide_true, decide_false, Bool.and_self, Bool.true_and, Bool.and_true, cond_true, cond_false, Int.toNat_natCast, eqR, eqR', Bool.not_true, Bool.not_false, bnd, hi, rowset_indices_eq _ hl, ContainsInt_eq al hn i hi hl hz, List.length_singleton, e1, Bool.not_not]
      rw [wrap_succ (by omega), drop_lt hi]
      generalize al.getD i default = s
      cases hb : least al s with
      | true =>
        simp only [cond_true, List.filter_cons, hb, if_true]
        rw [Minimal_loop al hn hl hz n (i + 1) _ (by omega) (by omega) (by simp; omega)]
        simp
      | false =>
        simp only [cond_false, List.filter_cons, hb, Bool.false_eq_true, if_false]
        rw [Minimal_loop al hn hl hz n (i + 1) _ (by omega) (by omega) (by omega)]
    · simp only [Int.ofNat_eq_natCast, lt_nat, le0_nat, decide_true, decide_false, Bool.and_self, Bool.true_and, Bool.and_true, cond_true, cond_false, Int.toNat_natCast, eqR, eqR', Bool.not_true, Bool.not_false, bnd, hi, drop_ge hi]; simp
/-- The minimal sets. -/
abbrev minl (l : List (List RowID)) : List (List RowID) := (fam l).filter (least (fam l))
theorem rowset_Minimal_eq (l : List (List RowID)) (hl : l.length ≤ 1000000) (hz : ∀ s ∈ l, s.length ≤ 1000000) : rowset_Minimal l = (true, minl l) := by
  unfold rowset_Minimal
  have h1 := fam_len l
  rw [rowset_Family_eq l hl hz]
  simp only [bnd, cond_true]
  rw [show (0 : Int) = ((0 : Nat) : Int) from rfl, show Int.ofNat (fam l).length = ((fam l).length : Int) from rfl,
    Minimal_loop (fam l) (sasc_nodup cS_ord (fam_asc l)) (by omega) (fam_small hz) _ 0 [] (by simp; omega) (by omega) (by simp)]
  rfl

/-! ### products -/
theorem Product_in (b : List (List RowID)) (x : List RowID) (t10 : List (List RowID)) (t11 t12 : Int) (hl : b.length ≤ 1000) (hz : ∀ y ∈ b, x.length + y.length ≤ 1000000) : ∀ (n i : Nat) (o : List (List RowID)), b.length < i + n → i ≤ b.length → o.length ≤ 1000000 + i →
    rowset_Product_L6 n b x t10 t11 t12 b b.length i o = (true, (b, t10, t11, t12, o ++ (b.drop i).map fun y => nR (x ++ y)))
  | 0, i, o, h, h2, h3 => by omega
  | n + 1, i, o, h, h2, h3 => by
    rw [rowset_Product_L6]
    by_cases hi : i < b.length
    · have e1 : (o.length + 1) * 24 ≤ reach := reach_of (by omega) (by omega)
      simp only [Int.ofNat_eq_natCast, lt_nat, le0_nat, decide_true, decide_false, Bool.and_self, Bool.true_and, Bool.and_true, cond_true, cond_false, Int.toNat_natCast, eqR, eqR', Bool.not_true, Bool.not_false, bnd, hi, rowset_Union_eq _ _ (hz _ (getD_mem hi)), List.length_singleton, e1]
      rw [wrap_succ (by omega), drop_lt hi, Product_in b x t10 t11 t12 hl hz n (i + 1) _ (by omega) (by omega) (by simp; omega)]
      simp
    · simp only [Int.ofNat_eq_natCast, lt_nat, le0_nat, decide_true, decide_false, Bool.and_self, Bool.true_and, Bool.and_true, cond_true, cond_false, Int.toNat_natCast, eqR, eqR', Bool.not_true, Bool.not_false, bnd, hi, drop_ge hi]; simp
theorem Product_loop (a b : List (List RowID)) (ha : a.length ≤ 1000) (hb : b.length ≤ 1000) (hz : ∀ x ∈ a, ∀ y ∈ b, x.length + y.length ≤ 1000000) : ∀ (n i : Nat) (o : List (List RowID)), a.length < i + n → i ≤ a.length → o.length ≤ 1000 * i →
    rowset_Product_L3 n b a a.length i o = (true, o ++ (a.drop i).flatMap fun x => b.map fun y => nR (x ++ y))
  | 0, i, o, h, h2, h3 => by omega
  | n + 1, i, o, h, h2, h3 => by
    rw [rowset_Product_L3]
    by_cases hi : i < a.length
    · simp only [Int.ofNat_eq_natCast, lt_nat, le0_nat, decide_true, decide_false, Bool.and_self, Bool.true_and, Bool.and_true, cond_true, cond_false, Int.toNat_natCast, eqR, eqR', Bool.not_true, Bool.not_false, bnd, hi]
      rw [show (0 : Int) = ((0 : Nat) : Int) from rfl, Product_in b (a.getD i default) a a.length i hb (hz _ (getD_mem hi)) _ 0 o (by simp; omega) (by omega) (by omega)]
      simp only [cond_true, List.drop_zero]
      rw [wrap_succ (by omega), drop_lt hi, Product_loop a b ha hb hz n (i + 1) _ (by omega) (by omega) (by simp; omega)]
      simp [List.flatMap_cons]
    · simp only [Int.ofNat_eq_natCast, lt_nat, le0_nat, decide_true, decide_false, Bool.and_self, Bool.true_and, Bool.and_true, cond_true, cond_false, Int.toNat_natCast, eqR, eqR', Bool.not_true, Bool.not_false, bnd, hi, drop_ge hi]; simp
abbrev prod (a b : List (List RowID)) : List (List RowID) := fam (a.flatMap fun x => b.map fun y => nR (x ++ y))
theorem mem_prod {a b : List (List RowID)} {z : List RowID} : z ∈ prod a b ↔ ∃ x ∈ a, ∃ y ∈ b, nR (x ++ y) = z := by
  rw [mem_fam]
  constructor
  · rintro ⟨s, hs, rfl⟩
    obtain ⟨x, hx, hs⟩ := List.mem_flatMap.1 hs
    obtain ⟨y, hy, rfl⟩ := List.mem_map.1 hs
    exact ⟨x, hx, y, hy, (nR_self (snorm_asc cR_ord _)).symm⟩
  · rintro ⟨x, hx, y, hy, rfl⟩
    exact ⟨nR (x ++ y), List.mem_flatMap.2 ⟨x, hx, List.mem_map.2 ⟨y, hy, rfl⟩⟩, nR_self (snorm_asc cR_ord _)⟩
theorem prod_small {a b : List (List RowID)} {p q : Nat} (ha : ∀ x ∈ a, x.length ≤ p) (hb : ∀ y ∈ b, y.length ≤ q) : ∀ z ∈ prod a b, z.length ≤ p + q := fun z hz => by
  obtain ⟨x, hx, y, hy, rfl⟩ := mem_prod.1 hz
  have := nR_len (x ++ y)
  have h1 := ha x hx
  have h2 := hb y hy
  simp at this; omega
theorem flat_len' (a b : List (List RowID)) : (a.flatMap fun x => b.map fun y => nR (x ++ y)).length = a.length * b.length := by
  rw [flat_len (fun x => b.map fun y => nR (x ++ y)) b.length (fun x => by simp)]
theorem prod_len (a b : List (List RowID)) : (prod a b).length ≤ a.length * b.length := by
  have := fam_len (a.flatMap fun x => b.map fun y => nR (x ++ y))
  rw [flat_len'] at this
  exact this
theorem rowset_Product_eq (a b : List (List RowID)) (ha : a.length ≤ 1000) (hb : b.length ≤ 1000) (hz : ∀ x ∈ a, ∀ y ∈ b, x.length + y.length ≤ 1000000) : rowset_Product a b = (true, prod a b) := by
  unfold rowset_Product
  rw [show (0 : Int) = ((0 : Nat) : Int) from rfl, show Int.ofNat a.length = (a.length : Int) from rfl, Product_loop a b ha hb hz _ 0 [] (by simp; omega) (by omega) (by simp)]
  simp only [bnd, cond_true, List.drop_zero, List.nil_append]
  rw [rowset_Family_eq _ (by rw [flat_len']; exact Nat.le_trans (Nat.mul_le_mul ha hb) (by omega)) fun s hs => by
    obtain ⟨x, hx, hs⟩ := List.mem_flatMap.1 hs
    obtain ⟨y, hy, rfl⟩ := List.mem_map.1 hs
    have h1 := hz x hx y hy
    have h2 := nR_len (x ++ y)
    simp at h2; omega]
  rfl

/-! ### the laws of minimal sets -/
theorem sub_eq {a b : List RowID} (ha : SAsc cR a) (hb : SAsc cR b) (h1 : ∀ x ∈ a, x ∈ b) (h2 : ∀ x ∈ b, x ∈ a) : a = b := sasc_unique cR_ord ha hb fun x => ⟨h1 x, h2 x⟩
theorem sub_lt {a b : List RowID} (ha : SAsc cR a) (hb : SAsc cR b) (h1 : ∀ x ∈ a, x ∈ b) (hne : a ≠ b) : a.length < b.length := by
  by_cases h : ∀ x ∈ b, x ∈ a
  · exact absurd (sub_eq ha hb h1 h) hne
  · obtain ⟨x, hx⟩ := Classical.not_forall.1 h
    obtain ⟨hxb, hxa⟩ := Classical.not_imp.1 hx
    have := perm_length_le_of_nodup_subset (l := x :: a) (l' := b) (List.nodup_cons.2 ⟨hxa, sasc_nodup cR_ord ha⟩) fun y hy => by
      rcases List.mem_cons.1 hy with rfl | hy
      · exact hxb
      · exact h1 y hy
    simp at this; omega
/-- Every set of a family includes a minimal one. -/
theorem has_least (al : List (List RowID)) (hs : ∀ s ∈ al, SAsc cR s) : ∀ (n : Nat) (s : List RowID), s.length ≤ n → s ∈ al → ∃ t ∈ al, least al t = true ∧ ∀ x ∈ t, x ∈ s
  | n, s, hn, hm => by
    by_cases h : least al s = true
    · exact ⟨s, hm, h, fun x hx => hx⟩
    · have h' : ¬ ∀ t ∈ al, (∀ x ∈ t, x ∈ s) → t = s := fun h' => h (least_iff.2 h')
      obtain ⟨t, ht⟩ := Classical.not_forall.1 h'
      obtain ⟨htm, ht⟩ := Classical.not_imp.1 ht
      obtain ⟨hts, hne⟩ := Classical.not_imp.1 ht
      have hlt := sub_lt (hs t htm) (hs s hm) hts hne
      cases n with
      | zero => omega
      | succ n =>
        obtain ⟨u, hu, hl, hsub⟩ := has_least al hs n t (by omega) htm
        exact ⟨u, hu, hl, fun x hx => hts x (hsub x hx)⟩
theorem mem_minl {l : List (List RowID)} {z : List RowID} : z ∈ minl l ↔ z ∈ fam l ∧ ∀ t ∈ fam l, (∀ x ∈ t, x ∈ z) → t = z := by
  rw [List.mem_filter, least_iff]
theorem minl_has {l : List (List RowID)} {s : List RowID} (h : s ∈ fam l) : ∃ t ∈ minl l, ∀ x ∈ t, x ∈ s := by
  obtain ⟨t, h1, h2, h3⟩ := has_least (fam l) (fun s hs => fam_set hs) s.length s (Nat.le_refl _) h
  exact ⟨t, List.mem_filter.2 ⟨h1, h2⟩, h3⟩
theorem minl_asc (l : List (List RowID)) : SAsc cS (minl l) := (fam_asc l).filter _
theorem minl_len (l : List (List RowID)) : (minl l).length ≤ l.length := Nat.le_trans (List.length_filter_le _ _) (fam_len l)
theorem minl_small {l : List (List RowID)} {k : Nat} (h : ∀ s ∈ l, s.length ≤ k) : ∀ s ∈ minl l, s.length ≤ k := fun s hs => fam_small h s (List.mem_filter.1 hs).1
theorem fam_self {l : List (List RowID)} (h : SAsc cS l) (hs : ∀ s ∈ l, SAsc cR s) : fam l = l := by
  have : l.map nR = l := by
    conv => rhs; rw [← List.map_id l]
    exact List.map_congr_left fun s h => nR_self (hs s h)
  unfold fam; rw [this]
  exact snorm_self cS_ord h
theorem fam_congr {l l' : List (List RowID)} (h : ∀ z, z ∈ fam l ↔ z ∈ fam l') : fam l = fam l' := sasc_unique cS_ord (fam_asc l) (fam_asc l') h
/-- A smaller family with a set below each of the greater one's has the same minimal sets. -/
theorem minl_eq {p q : List (List RowID)} (h1 : ∀ z ∈ fam q, z ∈ fam p) (h2 : ∀ z ∈ fam p, ∃ t ∈ fam q, ∀ x ∈ t, x ∈ z) : minl p = minl q := by
  refine sasc_unique cS_ord (minl_asc p) (minl_asc q) fun z => ?_
  rw [mem_minl, mem_minl]
  constructor
  · rintro ⟨hz, hm⟩
    obtain ⟨t, ht, hs⟩ := h2 z hz
    have := hm t (h1 t ht) hs
    subst this
    exact ⟨ht, fun u hu => hm u (h1 u hu)⟩
  · rintro ⟨hz, hm⟩
    refine ⟨h1 z hz, fun t ht hs => ?_⟩
    obtain ⟨u, hu, hus⟩ := h2 t ht
    have := hm u hu fun x hx => hs x (hus x hx)
    subst this
    exact sub_eq (fam_set ht) (fam_set hz) hs hus
end Go.Proofs.YteopikhooiallaaDoor
/- Functions of the program as plain functions, with their contracts. Printed by program. -/
set_option autoImplicit false
set_option linter.unusedVariables false
set_option linter.unusedSimpArgs false
namespace Go.Proofs.YteopikhooiallaaDoor
open Go Go.Ab
/-! ### lineage/lineagelaw02.RowsetProduct -/
noncomputable def law02_RowsetProduct_cx : Cx ty := { base0 with nt := 85, spec := fun g => List.lookup g [(8, law02_awake_spec), (12, ref02_Few_spec), (13, rowset_Minimal_spec), (22, rowset_Product_spec), (23, ref02_Sets_spec), (24, rowset_Family_spec)], io := fun g => (List.lookup g []).getD [], head := fun i => (List.lookup i []).getD [], out := outOf [], loops := fun i => List.lookup i [] }
noncomputable def law02_RowsetProduct (a : List (List RowID)) (b : List (List RowID)) (c : List (List RowID)) : Bool × Bool := bnd (ref02_Few a (5 : Int) (6 : Int)) (fun r22 => bif !r22 then (true, true) else bnd (ref02_Few b (5 : Int) (6 : Int)) (fun r21 => bif !r21 then (true, true) else bnd (ref02_Few c (5 : Int) (6 : Int)) (fun r20 => bif !r20 then (true, true) else bnd (rowset_Product a b) (fun r19 => bnd (rowset_Product b a) (fun r18 => bnd (ref02_Sets r19 r18) (fun r17 => bif !r17 then (true, false) else bnd (rowset_Product r19 c) (fun r16 => bnd (rowset_Product b c) (fun r15 => bnd (rowset_Product a r15) (fun r14 => bnd (ref02_Sets r16 r14) (fun r13 => bif !r13 then (true, false) else bnd (rowset_Product a [[]]) (fun r12 => bnd (rowset_Family a) (fun r11 => bnd (ref02_Sets r12 r11) (fun r10 => bif !r10 then (true, false) else bif decide (((0 : Nat) + b.length) * (24 : Nat) ≤ reach) then bif decide ((([] ++ b).length + c.length) * (24 : Nat) ≤ reach) then bif decide (((0 : Nat) + r19.length) * (24 : Nat) ≤ reach) then bnd (rowset_Product a c) (fun r9 => bif decide ((([] ++ r19).length + r9.length) * (24 : Nat) ≤ reach) then bnd (rowset_Product a ([] ++ b ++ c)) (fun r8 => bnd (rowset_Family ([] ++ r19 ++ r9)) (fun r7 => bnd (ref02_Sets r8 r7) (fun r6 => bif r6 then bnd (rowset_Minimal r19) (fun r5 => bnd (rowset_Minimal a) (fun r4 => bnd (rowset_Minimal b) (fun r3 => bnd (rowset_Product r4 r3) (fun r2 => bnd (rowset_Minimal r2) (fun r1 => bnd (ref02_Sets r5 r1) (fun r0 => (true, r0)) (false, default)) (false, default)) (false, default)) (false, default)) (false, default)) (false, default) else (true, false)) (false, default)) (false, default)) (false, default) else (false, default)) (false, default) else (false, default) else (false, default) else (false, default)) (false, default)) (false, default)) (false, default)) (false, default)) (false, default)) (false, default)) (false, default)) (false, default)) (false, default)) (false, default)) (false, default)) (false, default)) (false, default)
noncomputable def law02_RowsetProduct_res (r : Bool) : ARes ty := ⟨[.pure (.lit (.bool r))], []⟩
theorem law02_RowsetProduct_run (a : List (List RowID)) (b : List (List RowID)) (c : List (List RowID)) : runFn law02_RowsetProduct_cx Tryd.f7 (body Tryd.f7) ⟨[.pure], []⟩ [.pure (.sl 24 a), .pure (.sl 24 b), .pure (.sl 24 c)] = out (fun r => some (law02_RowsetProduct_res r)) (law02_RowsetProduct a b c) := by
  have h : runFn law02_RowsetProduct_cx Tryd.f7 (body Tryd.f7) ⟨[.pure], []⟩ [.pure (.sl 24 a), .pure (.sl 24 b), .pure (.sl 24 c)] = obnd (ref02_Few a (5 : Int) (6 : Int)) (fun r45 => bif !r45 then some ⟨[.pure (.lit (.bool true))], []⟩ else obnd (ref02_Few b (5 : Int) (6 : Int)) (fun r44 => bif !r44 then some ⟨[.pure (.lit (.bool true))], []⟩ else obnd (ref02_Few c (5 : Int) (6 : Int)) (fun r43 => bif !r43 then some ⟨[.pure (.lit (.bool true))], []⟩ else obnd (rowset_Product a b) (fun r42 => obnd (rowset_Product b a) (fun r41 => obnd (ref02_Sets r42 r41) (fun r40 => bif !r40 then some ⟨[.pure (.lit (.bool false))], []⟩ else obnd (rowset_Product r42 c) (fun r39 => obnd (rowset_Product b c) (fun r38 => obnd (rowset_Product a r38) (fun r37 => obnd (ref02_Sets r39 r37) (fun r36 => bif !r36 then some ⟨[.pure (.lit (.bool false))], []⟩ else obnd (rowset_Product a [[]]) (fun r35 => obnd (rowset_Family a) (fun r34 => obnd (ref02_Sets r35 r34) (fun r33 => bif !r33 then some ⟨[.pure (.lit (.bool false))], []⟩ else bif decide (((0 : Nat) + b.length) * (24 : Nat) ≤ reach) then bif decide ((([] ++ b).length + c.length) * (24 : Nat) ≤ reach) then bif decide (((0 : Nat) + r42.length) * (24 : Nat) ≤ reach) then obnd (rowset_Product a c) (fun r32 => bif decide ((([] ++ r42).length + r32.length) * (24 : Nat) ≤ reach) then obnd (rowset_Product a ([] ++ b ++ c)) (fun r31 => obnd (rowset_Family ([] ++ r42 ++ r32)) (fun r30 => obnd (ref02_Sets r31 r30) (fun r29 => bif r29 then obnd (rowset_Minimal r42) (fun r28 => obnd (rowset_Minimal a) (fun r27 => obnd (rowset_Minimal b) (fun r26 => obnd (rowset_Product r27 r26) (fun r25 => obnd (rowset_Minimal r25) (fun r24 => obnd (ref02_Sets r28 r24) (fun r23 => some ⟨[.pure (.lit (.bool (r23)))], []⟩)))))) else some ⟨[.pure (.lit (.bool false))], []⟩))) else none) else none else none else none))))))))))))) := by kernel_rfl
  rw [law02_RowsetProduct]
  exact h.trans (out_ite (out_ite (rfl) (out_ite (out_ite (rfl) (out_ite (out_ite (rfl) (out_ite (out_ite (out_ite (out_ite (rfl) (out_ite (out_ite (out_ite (out_ite (out_ite (rfl) (out_ite (out_ite (out_ite (out_ite (rfl) (out_ite (out_ite (out_ite (out_ite (out_ite (out_ite (out_ite (out_ite (out_ite (out_ite (out_ite (out_ite (out_ite (out_ite (out_ite (rfl) (rfl)) (rfl)) (rfl)) (rfl)) (rfl)) (rfl)) (rfl)) (rfl)) (rfl)) (rfl)) (rfl)) (rfl)) (rfl)) (rfl)) (rfl))) (rfl)) (rfl)) (rfl))) (rfl)) (rfl)) (rfl)) (rfl))) (rfl)) (rfl)) (rfl))) (rfl))) (rfl))) (rfl))
noncomputable def law02_RowsetProduct_A : AL base0 (List (List RowID) × List (List RowID) × List (List RowID) × Unit) := aCons (aPure (vSl 24)) (aCons (aPure (vSl 24)) (aCons (aPure (vSl 24)) aNil))
noncomputable def law02_RowsetProduct_spec : Ab.Spec ty := mkSpec law02_RowsetProduct_A fun x => ((law02_RowsetProduct x.1 x.2.1 x.2.2.1).1, law02_RowsetProduct_res (law02_RowsetProduct x.1 x.2.1 x.2.2.1).2)
theorem law02_RowsetProduct_sound : Sound Tryd.prog base0 7 law02_RowsetProduct_spec :=
  sound_of_run (cx' := law02_RowsetProduct_cx) draws base0_ok ⟨⟨rfl, rfl, rfl, rfl, rfl, rfl⟩, rfl⟩ (spec_of [(8, law02_awake_spec), (12, ref02_Few_spec), (13, rowset_Minimal_spec), (22, rowset_Product_spec), (23, ref02_Sets_spec), (24, rowset_Family_spec)] ⟨(law02_awake_sound), (ref02_Few_sound.nodr), (rowset_Minimal_sound.nodr), (rowset_Product_sound.nodr), (ref02_Sets_sound.nodr), (rowset_Family_sound.nodr), trivial⟩) Tryd.call7 Tryd.func7 (c := body Tryd.f7) (by kernel_rfl) (loopsOK_of (l := []) (by kernel_rfl) trivial) (sg := ⟨[.pure], []⟩) (A := law02_RowsetProduct_A) (res := law02_RowsetProduct_res) (F := fun x => law02_RowsetProduct x.1 x.2.1 x.2.2.1) (fun x => law02_RowsetProduct_run x.1 x.2.1 x.2.2.1) (fun _ => by kernel_rfl) (by kernel_rfl)
end Go.Proofs.YteopikhooiallaaDoor
/- RowsetMinimal, RowsetProduct: the laws over the printed functions. -/
set_option autoImplicit false
set_option linter.unusedVariables false
set_option linter.unusedSimpArgs false
namespace Go.Proofs.YteopikhooiallaaDoor
open Go Go.Ab

theorem few_iff {l : List (List RowID)} {k m : Nat} : (decide (l.length ≤ k) && l.all fun s => decide (s.length ≤ m)) = true ↔ l.length ≤ k ∧ ∀ s ∈ l, s.length ≤ m := by simp

/-! ### RowsetMinimal -/
theorem L13_loop (l m : List (List RowID)) (i : Nat) (hi : i < l.length) (hl : m.length ≤ 1000000) (hzl : ∀ s ∈ l, s.length ≤ 1000000) (hz : ∀ s ∈ m, s.length ≤ 1000000) : ∀ (n k : Nat) (found : Bool), m.length < k + n → k ≤ m.length →
    law02_RowsetMinimal_L13 n l i found k m = (true, (l, (i : Int), found || (m.drop k).any fun t => sub t (l.getD i default), m))
  | 0, k, found, h, h2 => by omega
  | n + 1, k, found, h, h2 => by
    rw [law02_RowsetMinimal_L13]
    by_cases hk : k < m.length
    · simp only [Int.ofNat_eq_natCast, lt_nat, le0_nat, decide_true, decide_false, Bool.and_self, Bool.true_and, Bool.and_true, cond_true, cond_false, Int.toNat_natCast, eqR, eqR', Bool.not_true, Bool.not_false, bnd, hk, hi, rowset_Subset_eq _ _ (hz _ (getD_mem hk)) (hzl _ (getD_mem hi))]
      rw [drop_lt hk, wrap_succ (by omega)]
      cases found with
      | true =>
        simp only [cond_true, Bool.true_or]
        rw [L13_loop l m i hi hl hzl hz n (k + 1) true (by omega) (by omega)]; simp
      | false =>
        simp only [cond_false, Bool.false_or]
        rw [L13_loop l m i hi hl hzl hz n (k + 1) _ (by omega) (by omega)]; rfl
    · simp only [Int.ofNat_eq_natCast, lt_nat, le0_nat, decide_true, decide_false, Bool.and_self, Bool.true_and, Bool.and_true, cond_true, cond_false, Int.toNat_natCast, eqR, eqR', Bool.not_true, Bool.not_false, bnd, hk, drop_ge hk]; simp
theorem L9_loop (l m : List (List RowID)) (hl : m.length ≤ 1000000) (hll : l.length ≤ 1000000) (hzl : ∀ s ∈ l, s.length ≤ 1000000) (hz : ∀ s ∈ m, s.length ≤ 1000000) (hall : ∀ s ∈ l, (m.any fun t => sub t s) = true) : ∀ (n i : Nat), l.length < i + n → i ≤ l.length →
    law02_RowsetMinimal_L9 n l i m = (true, .inr (l, m))
  | 0, i, h, h2 => by omega
  | n + 1, i, h, h2 => by
    rw [law02_RowsetMinimal_L9]
    by_cases hi : i < l.length
    · simp only [Int.ofNat_eq_natCast, lt_nat, le0_nat, decide_true, decide_false, Bool.and_self, Bool.true_and, Bool.and_true, cond_true, cond_false, Int.toNat_natCast, eqR, eqR', Bool.not_true, Bool.not_false, bnd, hi]
      rw [show (0 : Int) = ((0 : Nat) : Int) from rfl, L13_loop l m i hi hl hzl hz _ 0 false (by omega) (by omega)]
      simp only [cond_true, List.drop_zero, Bool.false_or, hall _ (getD_mem hi), Bool.not_true, cond_false]
      rw [wrap_succ (by omega)]
      exact L9_loop l m hl hll hzl hz hall n (i + 1) (by omega) (by omega)
    · simp only [Int.ofNat_eq_natCast, lt_nat, le0_nat, decide_true, decide_false, Bool.and_self, Bool.true_and, Bool.and_true, cond_true, cond_false, Int.toNat_natCast, eqR, eqR', Bool.not_true, Bool.not_false, bnd, hi]
theorem L23_loop (l m : List (List RowID)) (i : Nat) (hi : i < m.length) (hl : l.length ≤ 1000000) (hzl : ∀ s ∈ l, s.length ≤ 1000000) (hz : ∀ s ∈ m, s.length ≤ 1000000) : ∀ (n k : Nat) (found : Bool), l.length < k + n → k ≤ l.length →
    law02_RowsetMinimal_L23 n l i found k m = (true, (l, (i : Int), found || (l.drop k).any fun t => sub (m.getD i default) t && sub t (m.getD i default), m))
  | 0, k, found, h, h2 => by omega
  | n + 1, k, found, h, h2 => by
    rw [law02_RowsetMinimal_L23]
    by_cases hk : k < l.length
    · simp only [Int.ofNat_eq_natCast, lt_nat, le0_nat, decide_true, decide_false, Bool.and_self, Bool.true_and, Bool.and_true, cond_true, cond_false, Int.toNat_natCast, eqR, eqR', Bool.not_true, Bool.not_false, bnd, hk, hi, rowset_Subset_eq _ _ (hz _ (getD_mem hi)) (hzl _ (getD_mem hk)), rowset_Subset_eq _ _ (hzl _ (getD_mem hk)) (hz _ (getD_mem hi))]
      rw [drop_lt hk, wrap_succ (by omega)]
      cases found with
      | true =>
        simp only [cond_true, Bool.true_or]
        rw [L23_loop l m i hi hl hzl hz n (k + 1) true (by omega) (by omega)]; simp
      | false =>
        simp only [cond_false, Bool.false_or, List.any_cons]
        cases h3 : (m.getD i default).all fun x => decide (x ∈ l.getD k default) with
        | true =>
          have h3' : sub (m.getD i default) (l.getD k default) = true := h3
          simp only [cond_true]
          rw [L23_loop l m i hi hl hzl hz n (k + 1) _ (by omega) (by omega), h3', Bool.true_and]; rfl
        | false =>
          have h3' : sub (m.getD i default) (l.getD k default) = false := h3
          simp only [cond_false]
          rw [L23_loop l m i hi hl hzl hz n (k + 1) _ (by omega) (by omega), h3', Bool.false_and]; try rfl
    · simp only [Int.ofNat_eq_natCast, lt_nat, le0_nat, decide_true, decide_false, Bool.and_self, Bool.true_and, Bool.and_true, cond_true, cond_false, Int.toNat_natCast, eqR, eqR', Bool.not_true, Bool.not_false, bnd, hk, drop_ge hk]; simp
theorem L27_loop (l m : List (List RowID)) (i : Nat) (found : Bool) (hi : i < m.length) (hl : m.length ≤ 1000000) (hz : ∀ s ∈ m, s.length ≤ 1000000) (hn : ∀ k : Nat, k < m.length → k ≠ i → sub (m.getD k default) (m.getD i default) = false) : ∀ (n k : Nat), m.length < k + n → k ≤ m.length →
    law02_RowsetMinimal_L27 n l i found k m = (true, .inr (l, (i : Int), found, m))
  | 0, k, h, h2 => by omega
  | n + 1, k, h, h2 => by
    rw [law02_RowsetMinimal_L27]
    by_cases hk : k < m.length
    · rw [bne_nat]
      by_cases hki : k = i
      · simp only [Int.ofNat_eq_natCast, lt_nat, hk, decide_true, cond_true, hki, ne_eq, not_true_eq_false, decide_false, cond_false]
        subst hki
        simp only [hk, decide_true, cond_true]
        rw [wrap_succ (by omega)]
        exact L27_loop l m k found hk hl hz hn n (k + 1) (by omega) (by omega)
      · have h3 : ((m.getD k default).all fun x => decide (x ∈ m.getD i default)) = false := hn k hk hki
        simp only [Int.ofNat_eq_natCast, lt_nat, le0_nat, decide_true, decide_false, Bool.and_self, Bool.true_and, Bool.and_true, cond_true, cond_false, Int.toNat_natCast, eqR, eqR', Bool.not_true, Bool.not_false, bnd, hk, hi, hki, ne_eq, not_false_eq_true, rowset_Subset_eq _ _ (hz _ (getD_mem hk)) (hz _ (getD_mem hi)), h3]
        rw [wrap_succ (by omega)]
        exact L27_loop l m i found hi hl hz hn n (k + 1) (by omega) (by omega)
    · simp only [Int.ofNat_eq_natCast, lt_nat, le0_nat, decide_true, decide_false, Bool.and_self, Bool.true_and, Bool.and_true, cond_true, cond_false, Int.toNat_natCast, eqR, eqR', Bool.not_true, Bool.not_false, bnd, hk]
theorem L19_loop (l m : List (List RowID)) (hl : m.length ≤ 1000000) (hll : l.length ≤ 1000000) (hzl : ∀ s ∈ l, s.length ≤ 1000000) (hz : ∀ s ∈ m, s.length ≤ 1000000) (h1 : ∀ s ∈ m, (l.any fun t => sub s t && sub t s) = true)
    (hn : ∀ i k : Nat, i < m.length → k < m.length → k ≠ i → sub (m.getD k default) (m.getD i default) = false) : ∀ (n i : Nat), m.length < i + n → i ≤ m.length → law02_RowsetMinimal_L19 n l i m = (true, .inr ())
  | 0, i, h, h2 => by omega
  | n + 1, i, h, h2 => by
    rw [law02_RowsetMinimal_L19]
    by_cases hi : i < m.length
    · simp only [Int.ofNat_eq_natCast, lt_nat, le0_nat, decide_true, decide_false, Bool.and_self, Bool.true_and, Bool.and_true, cond_true, cond_false, Int.toNat_natCast, eqR, eqR', Bool.not_true, Bool.not_false, bnd, hi]
      rw [show (0 : Int) = ((0 : Nat) : Int) from rfl, L23_loop l m i hi hll hzl hz _ 0 false (by omega) (by omega)]
      simp only [cond_true, List.drop_zero, Bool.false_or, h1 _ (getD_mem hi), Int.toNat_natCast]
      rw [L27_loop l m i true hi hl hz (fun k hk hki => hn i k hi hk hki) _ 0 (by omega) (by omega)]
      simp only [cond_true, isL, cond_false, getR, Bool.not_true]
      rw [wrap_succ (by omega)]
      exact L19_loop l m hl hll hzl hz h1 hn n (i + 1) (by omega) (by omega)
    · simp only [Int.ofNat_eq_natCast, lt_nat, le0_nat, decide_true, decide_false, Bool.and_self, Bool.true_and, Bool.and_true, cond_true, cond_false, Int.toNat_natCast, eqR, eqR', Bool.not_true, Bool.not_false, bnd, hi]
theorem minimal_plain (l : List (List RowID)) (wl : wf30 l) : law02_RowsetMinimal l = (true, true) := by
  unfold law02_RowsetMinimal
  rw [show (12 : Int) = ((12 : Nat) : Int) from rfl, ref02_Few_eq l 12 12 (by omega)]
  simp only [bnd, cond_true]
  cases hf : decide (l.length ≤ 12) && l.all fun s => decide (s.length ≤ 12) with
  | false => rfl
  | true =>
    obtain ⟨hl, hs⟩ := few_iff.1 hf
    have h1 := minl_len l
    have h2 := minl_small hs
    simp only [Bool.not_true, cond_false]
    have hz : ∀ s ∈ l, s.length ≤ 1000000 := fun s h => Nat.le_trans (hs s h) (by omega)
    have hz' : ∀ s ∈ minl l, s.length ≤ 1000000 := fun s h => Nat.le_trans (h2 s h) (by omega)
    rw [rowset_Minimal_eq l (by omega) hz]
    simp only [cond_true]
    rw [ref02_IsFamily_of (minl l) (by omega) hz' (fun s h => fam_set (mem_minl.1 h).1) (minl_asc l)]
    simp only [cond_true, Bool.not_true, cond_false]
    have a1 : ∀ s ∈ l, ((minl l).any fun t => sub t s) = true := fun s h => by
      obtain ⟨t, ht, hts⟩ := minl_has (mem_fam.2 ⟨s, h, rfl⟩ : nR s ∈ fam l)
      exact List.any_eq_true.2 ⟨t, ht, sub_iff.2 fun x hx => nR_mem.1 (hts x hx)⟩
    rw [show (0 : Int) = ((0 : Nat) : Int) from rfl, L9_loop l (minl l) (by omega) (by omega) hz hz' a1 _ 0 (by omega) (by omega)]
    simp only [cond_true, isL, cond_false, getR]
    have a2 : ∀ s ∈ minl l, (l.any fun t => sub s t && sub t s) = true := fun s h => by
      obtain ⟨t, ht, rfl⟩ := mem_fam.1 (mem_minl.1 h).1
      exact List.any_eq_true.2 ⟨t, ht, by rw [sub_iff.2 fun x hx => nR_mem.1 hx, sub_iff.2 fun x hx => nR_mem.2 hx]; rfl⟩
    have a3 : ∀ i k : Nat, i < (minl l).length → k < (minl l).length → k ≠ i → sub ((minl l).getD k default) ((minl l).getD i default) = false := fun i k hi hk hki => by
      cases hb : sub ((minl l).getD k default) ((minl l).getD i default) with
      | false => rfl
      | true =>
        have := (mem_minl.1 (getD_mem hi)).2 _ (mem_minl.1 (getD_mem hk)).1 (sub_iff.1 hb)
        exact absurd (nodup_getD (sasc_nodup cS_ord (minl_asc l)) hi hk this) hki
    rw [L19_loop l (minl l) (by omega) (by omega) hz hz' a2 a3 _ 0 (by omega) (by omega)]
    rfl

/-! ### RowsetProduct -/
theorem product_plain (a b c : List (List RowID)) (wa : wf30 a) (wb : wf30 b) (wc : wf30 c) : law02_RowsetProduct a b c = (true, true) := by
  unfold law02_RowsetProduct
  rw [show (5 : Int) = ((5 : Nat) : Int) from rfl, show (6 : Int) = ((6 : Nat) : Int) from rfl, ref02_Few_eq a 5 6 (by omega), ref02_Few_eq b 5 6 (by omega), ref02_Few_eq c 5 6 (by omega)]
  simp only [bnd, cond_true]
  cases hfa : decide (a.length ≤ 5) && a.all fun s => decide (s.length ≤ 6) with
  | false => rfl
  | true =>
  cases hfb : decide (b.length ≤ 5) && b.all fun s => decide (s.length ≤ 6) with
  | false => rfl
  | true =>
  cases hfc : decide (c.length ≤ 5) && c.all fun s => decide (s.length ≤ 6) with
  | false => rfl
  | true =>
  obtain ⟨la, sa⟩ := few_iff.1 hfa
  obtain ⟨lb, sb⟩ := few_iff.1 hfb
  obtain ⟨lc, sc⟩ := few_iff.1 hfc
  simp only [Bool.not_true, cond_false]
  have hp : ∀ (p q : List (List RowID)) (m n : Nat), (∀ x ∈ p, x.length ≤ m) → (∀ y ∈ q, y.length ≤ n) → m ≤ 1000 → n ≤ 1000 → ∀ x ∈ p, ∀ y ∈ q, x.length + y.length ≤ 1000000 := fun p q m n h1 h2 h3 h4 x hx y hy => by
    have := h1 x hx
    have := h2 y hy
    omega
  have plen : ∀ (p q : List (List RowID)) (m n : Nat), p.length ≤ m → q.length ≤ n → (prod p q).length ≤ m * n := fun p q m n h1 h2 => Nat.le_trans (prod_len p q) (Nat.mul_le_mul h1 h2)
  have up : ∀ (p : List (List RowID)) (m : Nat), (∀ x ∈ p, x.length ≤ m) → m ≤ 1000 → ∀ x ∈ p, x.length ≤ 1000000 := fun p m h h2 x hx => Nat.le_trans (h x hx) (by omega)
  have lab := plen a b 5 5 la lb
  have sab := prod_small sa sb
  have lba := plen b a 5 5 lb la
  have lbc := plen b c 5 5 lb lc
  have sbc := prod_small sb sc
  have lac := plen a c 5 5 la lc
  have sac := prod_small sa sc
  have labc := plen (prod a b) c 25 5 lab lc
  have sabc := prod_small sab sc
  -- commutative
  rw [rowset_Product_eq a b (by omega) (by omega) (hp a b 6 6 sa sb (by omega) (by omega)), rowset_Product_eq b a (by omega) (by omega) (hp b a 6 6 sb sa (by omega) (by omega))]
  simp only [cond_true]
  have e1 : prod b a = prod a b := fam_congr fun z => by
    rw [mem_prod, mem_prod]
    constructor
    · rintro ⟨x, hx, y, hy, rfl⟩; exact ⟨y, hy, x, hx, nR_congr fun z => by simp [or_comm]⟩
    · rintro ⟨x, hx, y, hy, rfl⟩; exact ⟨y, hy, x, hx, nR_congr fun z => by simp [or_comm]⟩
  rw [e1, ref02_Sets_eq (prod a b) _ (by omega) (up _ 12 sab (by omega))]
  simp only [cond_true, decide_true, Bool.not_true, cond_false]
  -- associative
  rw [rowset_Product_eq (prod a b) c (by omega) (by omega) (hp _ _ 12 6 sab sc (by omega) (by omega)), rowset_Product_eq b c (by omega) (by omega) (hp b c 6 6 sb sc (by omega) (by omega))]
  simp only [cond_true]
  rw [rowset_Product_eq a (prod b c) (by omega) (by omega) (hp _ _ 6 12 sa sbc (by omega) (by omega))]
  simp only [cond_true]
  have e2 : prod a (prod b c) = prod (prod a b) c := fam_congr fun z => by
    rw [mem_prod, mem_prod]
    constructor
    · rintro ⟨x, hx, y, hy, rfl⟩
      obtain ⟨p, hp, q, hq, rfl⟩ := mem_prod.1 hy
      exact ⟨nR (x ++ p), mem_prod.2 ⟨x, hx, p, hp, rfl⟩, q, hq, nR_congr fun z => by simp [nR_mem, or_assoc]⟩
    · rintro ⟨x, hx, y, hy, rfl⟩
      obtain ⟨p, hp, q, hq, rfl⟩ := mem_prod.1 hx
      exact ⟨p, hp, nR (q ++ y), mem_prod.2 ⟨q, hq, y, hy, rfl⟩, nR_congr fun z => by simp [nR_mem, or_assoc]⟩
  rw [e2, ref02_Sets_eq (prod (prod a b) c) _ (by omega) (up _ 18 sabc (by omega))]
  simp only [cond_true, decide_true, Bool.not_true, cond_false]
  -- neutral
  rw [rowset_Product_eq a [[]] (by omega) (by simp) (hp a [[]] 6 0 sa (by simp) (by omega) (by omega)), rowset_Family_eq a (by omega) (up a 6 sa (by omega))]
  simp only [cond_true]
  have e3 : prod a [[]] = fam a := fam_congr fun z => by
    rw [mem_prod, mem_fam]
    constructor
    · rintro ⟨x, hx, y, hy, rfl⟩
      rw [List.mem_singleton] at hy
      subst hy
      exact ⟨x, hx, by rw [List.append_nil]⟩
    · rintro ⟨x, hx, rfl⟩
      exact ⟨x, hx, [], by simp, by rw [List.append_nil]⟩
  rw [e3, ref02_Sets_eq (fam a) _ (Nat.le_trans (fam_len a) (by omega)) (up _ 6 (fam_small sa) (by omega))]
  simp only [cond_true, decide_true, Bool.not_true, cond_false]
  -- sums
  have r1 : (0 + b.length) * 24 ≤ reach := reach_of (by omega) (by omega)
  have r2 : (([] ++ b).length + c.length) * 24 ≤ reach := reach_of (by simp; omega) (by omega)
  have r3 : (0 + (prod a b).length) * 24 ≤ reach := reach_of (by omega) (by omega)
  rw [decide_eq_true r1, decide_eq_true r2, decide_eq_true r3, rowset_Product_eq a c (by omega) (by omega) (hp a c 6 6 sa sc (by omega) (by omega))]
  simp only [cond_true]
  have r4 : (([] ++ prod a b).length + (prod a c).length) * 24 ≤ reach := reach_of (by simp only [List.nil_append]; omega) (by omega)
  have sbc' : ∀ x ∈ [] ++ b ++ c, x.length ≤ 6 := fun x hx => by
    simp only [List.nil_append, List.mem_append] at hx
    exact hx.elim (sb x) (sc x)
  have sabc' : ∀ x ∈ [] ++ prod a b ++ prod a c, x.length ≤ 12 := fun x hx => by
    simp only [List.nil_append, List.mem_append] at hx
    exact hx.elim (sab x) (sac x)
  rw [decide_eq_true r4, rowset_Product_eq a ([] ++ b ++ c) (by omega) (by simp; omega) (hp a _ 6 6 sa sbc' (by omega) (by omega)), rowset_Family_eq ([] ++ prod a b ++ prod a c) (by simp only [List.nil_append, List.length_append]; omega) (up _ 12 sabc' (by omega))]
  simp only [cond_true]
  have e4 : fam ([] ++ prod a b ++ prod a c) = prod a ([] ++ b ++ c) := fam_congr fun z => by
    rw [mem_prod, mem_fam]
    simp only [List.nil_append, List.mem_append]
    constructor
    · rintro ⟨s, hs, rfl⟩
      rcases hs with hs | hs
      · obtain ⟨x, hx, y, hy, rfl⟩ := mem_prod.1 hs
        exact ⟨x, hx, y, .inl hy, (nR_self (snorm_asc cR_ord _)).symm⟩
      · obtain ⟨x, hx, y, hy, rfl⟩ := mem_prod.1 hs
        exact ⟨x, hx, y, .inr hy, (nR_self (snorm_asc cR_ord _)).symm⟩
    · rintro ⟨x, hx, y, hy, rfl⟩
      rcases hy with hy | hy
      · exact ⟨nR (x ++ y), .inl (mem_prod.2 ⟨x, hx, y, hy, rfl⟩), nR_self (snorm_asc cR_ord _)⟩
      · exact ⟨nR (x ++ y), .inr (mem_prod.2 ⟨x, hx, y, hy, rfl⟩), nR_self (snorm_asc cR_ord _)⟩
  have l5 := prod_len a ([] ++ b ++ c)
  have l6 : a.length * ([] ++ b ++ c).length ≤ 5 * 10 := Nat.mul_le_mul la (by simp; omega)
  rw [e4, ref02_Sets_eq (prod a ([] ++ b ++ c)) _ (by omega) (up _ 12 (prod_small sa sbc') (by omega))]
  simp only [cond_true, decide_true]
  -- minimal sets
  have lma := minl_len a
  have lmb := minl_len b
  have lmp := plen (minl a) (minl b) 5 5 (by omega) (by omega)
  rw [rowset_Minimal_eq (prod a b) (by omega) (up _ 12 sab (by omega)), rowset_Minimal_eq a (by omega) (up _ 6 sa (by omega)), rowset_Minimal_eq b (by omega) (up _ 6 sb (by omega))]
  simp only [cond_true]
  rw [rowset_Product_eq (minl a) (minl b) (by omega) (by omega) (hp _ _ 6 6 (minl_small sa) (minl_small sb) (by omega) (by omega))]
  simp only [cond_true]
  rw [rowset_Minimal_eq (prod (minl a) (minl b)) (by omega) (up _ 12 (prod_small (minl_small sa) (minl_small sb)) (by omega))]
  simp only [cond_true]
  have f1 : ∀ p q : List (List RowID), fam (prod p q) = prod p q := fun p q => fam_self (fam_asc _) fun s hs => fam_set hs
  have e5 : minl (prod a b) = minl (prod (minl a) (minl b)) := by
    refine minl_eq (fun z hz => ?_) fun z hz => ?_
    · rw [f1] at hz ⊢
      obtain ⟨x, hx, y, hy, rfl⟩ := mem_prod.1 hz
      obtain ⟨x0, hx0, rfl⟩ := mem_fam.1 (mem_minl.1 hx).1
      obtain ⟨y0, hy0, rfl⟩ := mem_fam.1 (mem_minl.1 hy).1
      exact mem_prod.2 ⟨x0, hx0, y0, hy0, nR_congr fun z => by simp [nR_mem]⟩
    · rw [f1] at hz ⊢
      obtain ⟨x, hx, y, hy, rfl⟩ := mem_prod.1 hz
      obtain ⟨x', hx', sx⟩ := minl_has (mem_fam.2 ⟨x, hx, rfl⟩ : nR x ∈ fam a)
      obtain ⟨y', hy', sy⟩ := minl_has (mem_fam.2 ⟨y, hy, rfl⟩ : nR y ∈ fam b)
      refine ⟨nR (x' ++ y'), mem_prod.2 ⟨x', hx', y', hy', rfl⟩, fun w hw => ?_⟩
      rw [nR_mem, List.mem_append] at hw ⊢
      exact hw.elim (fun h => .inl (nR_mem.1 (sx w h))) fun h => .inr (nR_mem.1 (sy w h))
  have lm := minl_len (prod a b)
  rw [← e5, ref02_Sets_eq (minl (prod a b)) _ (by omega) (up _ 12 (minl_small sab) (by omega))]
  simp only [cond_true, decide_true]
end Go.Proofs.YteopikhooiallaaDoor
