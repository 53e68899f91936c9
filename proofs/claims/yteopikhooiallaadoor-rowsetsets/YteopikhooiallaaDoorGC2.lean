/- Texts of this claim, joined (the program, its functions in plain words, and what they compute). -/
import Derived.Test.YteopikhooiallaaDoorGB1
import Derived.Test.YteopikhooiallaaDoorGC1
set_option autoImplicit false
set_option maxRecDepth 1000000
set_option maxHeartbeats 0
/- What the printed functions compute: the reference's functions on sets of row identifiers. -/
set_option autoImplicit false
set_option linter.unusedVariables false
set_option linter.unusedSimpArgs false
namespace Go.Proofs.YteopikhooiallaaDoor
open Go Go.Ab

/-! ### the order of row identifiers -/
def cR (a b : RowID) : Int := if a.Table < b.Table then -1 else if b.Table < a.Table then 1 else if a.Seq < b.Seq then -1 else if b.Seq < a.Seq then 1 else 0
theorem cR_ord : Ord3 cR where
  eq := fun x y => by
    obtain ⟨a, b⟩ := x; obtain ⟨c, d⟩ := y
    simp only [cR, RowID.mk.injEq]
    repeat' split
    all_goals omega
  swap := fun x y => by
    simp only [cR]
    repeat' split
    all_goals omega
  trans := fun x y z => by
    simp only [cR]
    repeat' split
    all_goals omega
theorem cR_range (a b : RowID) : cR a b = -1 ∨ cR a b = 0 ∨ cR a b = 1 := by
  simp only [cR]
  repeat' split
  all_goals omega
theorem eqR' (a b : RowID) : (a.Table == b.Table && a.Seq == b.Seq) = decide (a = b) := by
  obtain ⟨p, q⟩ := a; obtain ⟨r, s⟩ := b
  by_cases h1 : p = r <;> by_cases h2 : q = s <;> simp [h1, h2]
theorem eqR (a b : RowID) : (a.Table == b.Table && (a.Seq == b.Seq && true)) = decide (a = b) := by
  rw [Bool.and_true, eqR']
abbrev cS : List RowID → List RowID → Int := lexc cR
theorem cS_ord : Ord3 cS := lexc_ord cR_ord
abbrev nR : List RowID → List RowID := snorm cR

theorem ref02_Compare_eq (a b : RowID) : ref02_Compare a b = (true, cR a b) := by
  unfold ref02_Compare cR
  rw [eqR]
  by_cases h : a = b
  · subst h; simp
  · obtain ⟨p, q⟩ := a; obtain ⟨r, s⟩ := b
    have h' : ¬ (p = r ∧ q = s) := by simpa using h
    simp only [h, decide_false, cond_false]
    by_cases h1 : p < r
    · simp [h1]
    · by_cases h2 : p = r
      · subst h2
        by_cases h3 : q < s
        · simp [h3]
        · have h4 : s < q := by omega
          simp [h3, h4]
      · have h3 : r < p := by omega
        have h4 : (p == r) = false := by simp [h2]
        simp [h1, h4, h3]

theorem In_loop (l : List RowID) (id : RowID) (hl : l.length ≤ 1000000) : ∀ (n i : Nat), l.length < i + n → i ≤ l.length → ref02_In_L2 n l i id = (true, if id ∈ l.drop i then .inl true else .inr ())
  | 0, i, h, h2 => by omega
  | n + 1, i, h, h2 => by
    rw [ref02_In_L2]
    by_cases hi : i < l.length
    · simp only [Int.ofNat_eq_natCast, lt_nat, le0_nat, decide_true, decide_false, Bool.and_self, Bool.true_and, Bool.and_true, cond_true, cond_false, Int.toNat_natCast, eqR, eqR', Bool.not_true, Bool.not_false, bnd, hi]
      rw [drop_lt hi, wrap_succ (by omega), In_loop l id hl n (i + 1) (by omega) (by omega)]
      generalize l.getD i default = x
      by_cases he : x = id
      · subst he; simp
      · simp [he, Ne.symm he]
    · simp only [Int.ofNat_eq_natCast, lt_nat, le0_nat, decide_true, decide_false, Bool.and_self, Bool.true_and, Bool.and_true, cond_true, cond_false, Int.toNat_natCast, eqR, eqR', Bool.not_true, Bool.not_false, bnd, hi, drop_ge hi]; simp
theorem ref02_In_eq (l : List RowID) (id : RowID) (hl : l.length ≤ 1000000) : ref02_In l id = (true, decide (id ∈ l)) := by
  unfold ref02_In
  rw [show (0 : Int) = ((0 : Nat) : Int) from rfl, In_loop l id hl _ 0 (by simp) (by omega)]
  by_cases h : id ∈ l <;> simp [h, isL, getL, bnd]

/-- Insertion before the first that is greater: did it happen, and with what. -/
def insb (x : RowID) : List RowID → Bool × List RowID
  | [] => (false, [])
  | y :: r => if cR x y < 0 then (true, x :: y :: r) else ((insb x r).1, y :: (insb x r).2)
theorem insb_sins (x : RowID) : ∀ (l : List RowID), x ∉ l → (if (insb x l).1 then (insb x l).2 else (insb x l).2 ++ [x]) = sins cR x l
  | [], _ => by simp [insb, sins]
  | y :: r, h => by
    have h1 : x ≠ y := fun e => h (by simp [e])
    have h2 := insb_sins x r fun e => h (by simp [e])
    unfold insb sins
    by_cases hc : cR x y < 0
    · simp [hc]
    · have h3 : ¬ cR x y = 0 := fun e => h1 ((cR_ord.eq x y).1 e)
      simp only [hc, h3, if_false]
      rw [← h2]
      cases (insb x r).1 <;> simp
theorem insb_length (x : RowID) : ∀ (l : List RowID), (insb x l).2.length ≤ l.length + 1
  | [] => by simp [insb]
  | y :: r => by
    have := insb_length x r
    unfold insb
    split
    · simp
    · simp; omega
theorem insert_loop (l : List RowID) (id : RowID) (hl : l.length ≤ 1000000) : ∀ (n i : Nat) (done : Bool) (o : List RowID), l.length < i + n → i ≤ l.length → o.length ≤ i + (if done then 1 else 0) →
    ref02_insert_L6 n l done i id o = (true, if done then (true, id, o ++ l.drop i) else ((insb id (l.drop i)).1, id, o ++ (insb id (l.drop i)).2))
  | 0, i, done, o, h, h2, h3 => by omega
  | n + 1, i, done, o, h, h2, h3 => by
    rw [ref02_insert_L6]
    by_cases hi : i < l.length
    · have h4 : o.length ≤ i + 1 := by split at h3 <;> omega
      have e1 : (o.length + 1) * 16 ≤ reach := reach_of (by omega) (by omega)
      have e2 : (o.length + 1 + 1) * 16 ≤ reach := reach_of (by omega) (by omega)
      simp only [Int.ofNat_eq_natCast, lt_nat, le0_nat, decide_true, decide_false, Bool.and_self, Bool.true_and, Bool.and_true, cond_true, cond_false, Int.toNat_natCast, eqR, eqR', Bool.not_true, Bool.not_false, bnd, hi, ref02_Compare_eq, List.length_singleton, List.length_append, e1, e2]
      rw [wrap_succ (by omega), drop_lt hi]
      generalize l.getD i default = x
      cases done with
      | true =>
        simp only [Bool.not_true, cond_false, if_true] at h3 ⊢
        rw [insert_loop l id hl n (i + 1) true _ (by omega) (by omega) (by simp; omega)]
        simp
      | false =>
        simp only [Bool.not_false, cond_true, insb, Bool.false_eq_true, if_false] at h3 ⊢
        by_cases hc : cR id x < 0
        · simp only [hc, decide_true, cond_true, if_true]
          rw [insert_loop l id hl n (i + 1) true _ (by omega) (by omega) (by simp; omega)]
          simp
        · simp only [hc, decide_false, cond_false, if_false]
          rw [insert_loop l id hl n (i + 1) false _ (by omega) (by omega) (by simp; omega)]
          simp
    · simp only [Int.ofNat_eq_natCast, lt_nat, le0_nat, decide_true, decide_false, Bool.and_self, Bool.true_and, Bool.and_true, cond_true, cond_false, Int.toNat_natCast, eqR, eqR', Bool.not_true, Bool.not_false, bnd, hi, drop_ge hi]
      cases done <;> simp [insb]
theorem ref02_insert_eq (l : List RowID) (id : RowID) (hl : l.length ≤ 1000000) (hs : SAsc cR l) : ref02_insert l id = (true, sins cR id l) := by
  unfold ref02_insert
  rw [ref02_In_eq l id hl]
  by_cases h : id ∈ l
  · simp only [Int.ofNat_eq_natCast, lt_nat, le0_nat, decide_true, decide_false, Bool.and_self, Bool.true_and, Bool.and_true, cond_true, cond_false, Int.toNat_natCast, eqR, eqR', Bool.not_true, Bool.not_false, bnd, h]
    congr 1
    exact sasc_unique cR_ord hs (sins_asc cR_ord id hs) fun z => by
      rw [sins_mem cR_ord]
      exact ⟨.inr, fun h' => h'.elim (fun e => e ▸ h) fun h' => h'⟩
  · simp only [Int.ofNat_eq_natCast, lt_nat, le0_nat, decide_true, decide_false, Bool.and_self, Bool.true_and, Bool.and_true, cond_true, cond_false, Int.toNat_natCast, eqR, eqR', Bool.not_true, Bool.not_false, bnd, h]
    rw [show (0 : Int) = ((0 : Nat) : Int) from rfl, insert_loop l id hl _ 0 false [] (by simp) (by omega) (by simp)]
    have h1 := insb_length id l
    have e1 : ((insb id l).2.length + 1) * 16 ≤ reach := reach_of (by omega) (by omega)
    simp only [Bool.false_eq_true, if_false, List.drop_zero, List.nil_append, List.length_singleton, e1, decide_true, cond_true]
    rw [← insb_sins id l h]
    cases (insb id l).1 <;> simp
theorem sins_length (x : RowID) : ∀ l : List RowID, (sins cR x l).length ≤ l.length + 1
  | [] => by simp [sins]
  | y :: r => by
    have := sins_length x r
    unfold sins
    split
    · simp
    · split <;> simp <;> omega

theorem Normalize_loop (l : List RowID) (hl : l.length ≤ 100000) : ∀ (n i : Nat) (o : List RowID), l.length < i + n → i ≤ l.length → SAsc cR o → o.length + l.length ≤ 500000 + i → ref02_Normalize_L3 n l o i = (true, (l.drop i).foldl (fun o x => sins cR x o) o)
  | 0, i, o, h, h2, hs, h3 => by omega
  | n + 1, i, o, h, h2, hs, h3 => by
    rw [ref02_Normalize_L3]
    by_cases hi : i < l.length
    · simp only [Int.ofNat_eq_natCast, lt_nat, le0_nat, decide_true, decide_false, Bool.and_self, Bool.true_and, Bool.and_true, cond_true, cond_false, Int.toNat_natCast, eqR, eqR', Bool.not_true, Bool.not_false, bnd, hi]
      rw [drop_lt hi, wrap_succ (by omega), ref02_insert_eq _ _ (by omega) hs]
      generalize l.getD i default = x
      have := sins_length x o
      simp only [cond_true]
      rw [Normalize_loop l hl n (i + 1) _ (by omega) (by omega) (sins_asc cR_ord x hs) (by omega)]
      rfl
    · simp only [Int.ofNat_eq_natCast, lt_nat, le0_nat, decide_true, decide_false, Bool.and_self, Bool.true_and, Bool.and_true, cond_true, cond_false, Int.toNat_natCast, eqR, eqR', Bool.not_true, Bool.not_false, bnd, hi, drop_ge hi]; rfl
theorem ref02_Normalize_eq (l : List RowID) (hl : l.length ≤ 100000) : ref02_Normalize l = (true, nR l) := by
  unfold ref02_Normalize
  rw [show (0 : Int) = ((0 : Nat) : Int) from rfl, Normalize_loop l hl _ 0 [] (by simp) (by omega) .nil (by simp; omega)]
  rfl
theorem Union_loop (b : List RowID) (hl : b.length ≤ 100000) : ∀ (n i : Nat) (o : List RowID), b.length < i + n → i ≤ b.length → SAsc cR o → o.length + b.length ≤ 500000 + i → ref02_Union_L3 n b o i = (true, (b.drop i).foldl (fun o x => sins cR x o) o)
  | 0, i, o, h, h2, hs, h3 => by omega
  | n + 1, i, o, h, h2, hs, h3 => by
    rw [ref02_Union_L3]
    by_cases hi : i < b.length
    · simp only [Int.ofNat_eq_natCast, lt_nat, le0_nat, decide_true, decide_false, Bool.and_self, Bool.true_and, Bool.and_true, cond_true, cond_false, Int.toNat_natCast, eqR, eqR', Bool.not_true, Bool.not_false, bnd, hi]
      rw [drop_lt hi, wrap_succ (by omega), ref02_insert_eq _ _ (by omega) hs]
      generalize b.getD i default = x
      have := sins_length x o
      simp only [cond_true]
      rw [Union_loop b hl n (i + 1) _ (by omega) (by omega) (sins_asc cR_ord x hs) (by omega)]
      rfl
    · simp only [Int.ofNat_eq_natCast, lt_nat, le0_nat, decide_true, decide_false, Bool.and_self, Bool.true_and, Bool.and_true, cond_true, cond_false, Int.toNat_natCast, eqR, eqR', Bool.not_true, Bool.not_false, bnd, hi, drop_ge hi]; rfl
theorem ref02_Union_eq (a b : List RowID) (ha : a.length ≤ 100000) (hb : b.length ≤ 100000) : ref02_Union a b = (true, nR (a ++ b)) := by
  unfold ref02_Union
  have h1 := snorm_length cR_ord a
  rw [ref02_Normalize_eq a ha, bnd, show (0 : Int) = ((0 : Nat) : Int) from rfl]
  simp only [cond_true]
  rw [Union_loop b hb _ 0 _ (by simp; omega) (by omega) (snorm_asc cR_ord a) (by omega)]
  simp only [bnd, cond_true, List.drop_zero, nR, snorm, List.foldl_append]
theorem Minus_loop (a b : List RowID) (ha : a.length ≤ 100000) (hb : b.length ≤ 1000000) : ∀ (n i : Nat) (o : List RowID), a.length < i + n → i ≤ a.length → SAsc cR o → o.length + a.length ≤ 500000 + i →
    ref02_Minus_L3 n a b o i = (true, ((a.drop i).filter fun x => !decide (x ∈ b)).foldl (fun o x => sins cR x o) o)
  | 0, i, o, h, h2, hs, h3 => by omega
  | n + 1, i, o, h, h2, hs, h3 => by
    rw [ref02_Minus_L3]
    by_cases hi : i < a.length
    · simp only [Int.ofNat_eq_natCast, lt_nat, le0_nat, decide_true, decide_false, Bool.and_self, Bool.true_and, Bool.and_true, cond_true, cond_false, Int.toNat_natCast, eqR, eqR', Bool.not_true, Bool.not_false, bnd, hi, ref02_In_eq b _ hb]
      rw [drop_lt hi, wrap_succ (by omega), ref02_insert_eq _ _ (by omega) hs]
      generalize a.getD i default = x
      have := sins_length x o
      by_cases hx : x ∈ b
      · simp only [Int.ofNat_eq_natCast, lt_nat, le0_nat, decide_true, decide_false, Bool.and_self, Bool.true_and, Bool.and_true, cond_true, cond_false, Int.toNat_natCast, eqR, eqR', Bool.not_true, Bool.not_false, bnd, hx, List.filter_cons, Bool.false_eq_true, if_false]
        rw [Minus_loop a b ha hb n (i + 1) _ (by omega) (by omega) hs (by omega)]
      · simp only [Int.ofNat_eq_natCast, lt_nat, le0_nat, decide_true, decide_false, Bool.and_self, Bool.true_and, Bool.and_true, cond_true, cond_false, Int.toNat_natCast, eqR, eqR', Bool.not_true, Bool.not_false, bnd, hx, List.filter_cons, if_true]
        rw [Minus_loop a b ha hb n (i + 1) _ (by omega) (by omega) (sins_asc cR_ord x hs) (by omega)]
        rfl
    · simp only [Int.ofNat_eq_natCast, lt_nat, le0_nat, decide_true, decide_false, Bool.and_self, Bool.true_and, Bool.and_true, cond_true, cond_false, Int.toNat_natCast, eqR, eqR', Bool.not_true, Bool.not_false, bnd, hi, drop_ge hi]; rfl
theorem ref02_Minus_eq (a b : List RowID) (ha : a.length ≤ 100000) (hb : b.length ≤ 1000000) : ref02_Minus a b = (true, nR (a.filter fun x => !decide (x ∈ b))) := by
  unfold ref02_Minus
  rw [show (0 : Int) = ((0 : Nat) : Int) from rfl, Minus_loop a b ha hb _ 0 [] (by simp; omega) (by omega) .nil (by simp; omega)]
  rfl
theorem Subset_loop (a b : List RowID) (ha : a.length ≤ 1000000) (hb : b.length ≤ 1000000) : ∀ (n i : Nat), a.length < i + n → i ≤ a.length → ref02_Subset_L2 n a b i = (true, if (a.drop i).all (fun x => decide (x ∈ b)) then .inr () else .inl false)
  | 0, i, h, h2 => by omega
  | n + 1, i, h, h2 => by
    rw [ref02_Subset_L2]
    by_cases hi : i < a.length
    · simp only [Int.ofNat_eq_natCast, lt_nat, le0_nat, decide_true, decide_false, Bool.and_self, Bool.true_and, Bool.and_true, cond_true, cond_false, Int.toNat_natCast, eqR, eqR', Bool.not_true, Bool.not_false, bnd, hi, ref02_In_eq b _ hb]
      rw [drop_lt hi, wrap_succ (by omega), Subset_loop a b ha hb n (i + 1) (by omega) (by omega)]
      generalize a.getD i default = x
      by_cases hx : x ∈ b <;> simp [hx]
    · simp only [Int.ofNat_eq_natCast, lt_nat, le0_nat, decide_true, decide_false, Bool.and_self, Bool.true_and, Bool.and_true, cond_true, cond_false, Int.toNat_natCast, eqR, eqR', Bool.not_true, Bool.not_false, bnd, hi, drop_ge hi]; rfl
theorem ref02_Subset_eq (a b : List RowID) (ha : a.length ≤ 1000000) (hb : b.length ≤ 1000000) : ref02_Subset a b = (true, a.all fun x => decide (x ∈ b)) := by
  unfold ref02_Subset
  rw [show (0 : Int) = ((0 : Nat) : Int) from rfl, Subset_loop a b ha hb _ 0 (by simp; omega) (by omega)]
  simp only [List.drop_zero]
  cases a.all fun x => decide (x ∈ b) <;> rfl

theorem Same_loop (a b : List RowID) (ha : a.length ≤ 1000000) (hab : a.length = b.length) : ∀ (n i : Nat), a.length < i + n → i ≤ a.length → ref02_Same_L4 n a b i = (true, if a.drop i = b.drop i then .inr () else .inl false)
  | 0, i, h, h2 => by omega
  | n + 1, i, h, h2 => by
    rw [ref02_Same_L4]
    by_cases hi : i < a.length
    · have hi' : i < b.length := by omega
      simp only [Int.ofNat_eq_natCast, lt_nat, le0_nat, decide_true, decide_false, Bool.and_self, Bool.true_and, Bool.and_true, cond_true, cond_false, Int.toNat_natCast, eqR, eqR', Bool.not_true, Bool.not_false, bnd, hi, hi']
      rw [drop_lt hi, drop_lt hi', wrap_succ (by omega), Same_loop a b ha hab n (i + 1) (by omega) (by omega)]
      generalize a.getD i default = x
      generalize b.getD i default = y
      by_cases hx : x = y <;> simp [hx]
    · have hi' : ¬ i < b.length := by omega
      simp only [Int.ofNat_eq_natCast, lt_nat, le0_nat, decide_true, decide_false, Bool.and_self, Bool.true_and, Bool.and_true, cond_true, cond_false, Int.toNat_natCast, eqR, eqR', Bool.not_true, Bool.not_false, bnd, hi, drop_ge hi, drop_ge hi']; simp
theorem ref02_Same_eq (a b : List RowID) (ha : a.length ≤ 1000000) : ref02_Same a b = (true, decide (a = b)) := by
  unfold ref02_Same
  simp only [Int.ofNat_eq_natCast, bne_nat]
  by_cases hab : a.length = b.length
  · simp only [hab, ne_eq, not_true_eq_false, decide_false, cond_false]
    rw [show (0 : Int) = ((0 : Nat) : Int) from rfl, Same_loop a b ha hab _ 0 (by simp; omega) (by omega)]
    by_cases h : a = b <;> simp [h, isL, getL, bnd]
  · have : a ≠ b := fun e => hab (by rw [e])
    simp [hab, this]
theorem Sets_loop (a b : List (List RowID)) (ha : a.length ≤ 1000000) (hae : ∀ s ∈ a, s.length ≤ 1000000) (hab : a.length = b.length) : ∀ (n i : Nat), a.length < i + n → i ≤ a.length → ref02_Sets_L4 n a b i = (true, if a.drop i = b.drop i then .inr () else .inl false)
  | 0, i, h, h2 => by omega
  | n + 1, i, h, h2 => by
    rw [ref02_Sets_L4]
    by_cases hi : i < a.length
    · have hi' : i < b.length := by omega
      simp only [Int.ofNat_eq_natCast, lt_nat, le0_nat, decide_true, decide_false, Bool.and_self, Bool.true_and, Bool.and_true, cond_true, cond_false, Int.toNat_natCast, eqR, eqR', Bool.not_true, Bool.not_false, bnd, hi, hi', ref02_Same_eq _ _ (hae _ (getD_mem hi))]
      rw [drop_lt hi, drop_lt hi', wrap_succ (by omega), Sets_loop a b ha hae hab n (i + 1) (by omega) (by omega)]
      generalize a.getD i default = x
      generalize b.getD i default = y
      by_cases hx : x = y <;> simp [hx]
    · have hi' : ¬ i < b.length := by omega
      simp only [Int.ofNat_eq_natCast, lt_nat, le0_nat, decide_true, decide_false, Bool.and_self, Bool.true_and, Bool.and_true, cond_true, cond_false, Int.toNat_natCast, eqR, eqR', Bool.not_true, Bool.not_false, bnd, hi, drop_ge hi, drop_ge hi']; simp
theorem ref02_Sets_eq (a b : List (List RowID)) (ha : a.length ≤ 1000000) (hae : ∀ s ∈ a, s.length ≤ 1000000) : ref02_Sets a b = (true, decide (a = b)) := by
  unfold ref02_Sets
  simp only [Int.ofNat_eq_natCast, bne_nat]
  by_cases hab : a.length = b.length
  · simp only [hab, ne_eq, not_true_eq_false, decide_false, cond_false]
    rw [show (0 : Int) = ((0 : Nat) : Int) from rfl, Sets_loop a b ha hae hab _ 0 (by simp; omega) (by omega)]
    by_cases h : a = b <;> simp [h, isL, getL, bnd]
  · have : a ≠ b := fun e => hab (by rw [e])
    simp [hab, this]

theorem CompareSets_loop (a b : List RowID) (ha : a.length ≤ 1000000) (hb : b.length ≤ 1000000) : ∀ (n i : Nat), a.length < i + n → i ≤ a.length → i ≤ b.length →
    ∃ r, ref02_CompareSets_L2 n a b i = (true, r) ∧ ((r = .inl (cS (a.drop i) (b.drop i))) ∨ (r = .inr (a, b) ∧ cS (a.drop i) (b.drop i) = if a.length < b.length then -1 else if b.length < a.length then 1 else 0))
  | 0, i, h, h2, h3 => by omega
  | n + 1, i, h, h2, h3 => by
    rw [ref02_CompareSets_L2]
    by_cases hi : i < a.length
    · by_cases hi' : i < b.length
      · simp only [Int.ofNat_eq_natCast, lt_nat, le0_nat, decide_true, decide_false, Bool.and_self, Bool.true_and, Bool.and_true, cond_true, cond_false, Int.toNat_natCast, eqR, eqR', Bool.not_true, Bool.not_false, bnd, hi, hi', ref02_Compare_eq]
        rw [drop_lt hi, drop_lt hi', wrap_succ (by omega)]
        generalize a.getD i default = x
        generalize b.getD i default = y
        by_cases hx : cR x y = 0
        · have e : (cR x y != 0) = false := by simp [hx]
          simp only [e, cond_false, lexc, hx, if_true]
          exact CompareSets_loop a b ha hb n (i + 1) (by omega) (by omega) (by omega)
        · have e : (cR x y != 0) = true := by simp [hx]
          simp only [e, cond_true, lexc, hx, if_false]
          exact ⟨_, rfl, .inl rfl⟩
      · simp only [Int.ofNat_eq_natCast, lt_nat, le0_nat, decide_true, decide_false, Bool.and_self, Bool.true_and, Bool.and_true, cond_true, cond_false, Int.toNat_natCast, eqR, eqR', Bool.not_true, Bool.not_false, bnd, hi, hi']
        refine ⟨_, rfl, .inr ⟨rfl, ?_⟩⟩
        rw [drop_lt hi, drop_ge hi', if_neg (by omega), if_pos (by omega)]; rfl
    · simp only [Int.ofNat_eq_natCast, lt_nat, le0_nat, decide_true, decide_false, Bool.and_self, Bool.true_and, Bool.and_true, cond_true, cond_false, Int.toNat_natCast, eqR, eqR', Bool.not_true, Bool.not_false, bnd, hi]
      refine ⟨_, rfl, .inr ⟨rfl, ?_⟩⟩
      rw [drop_ge hi]
      by_cases hi' : i < b.length
      · rw [drop_lt hi', if_pos (by omega)]; rfl
      · rw [drop_ge hi', if_neg (by omega), if_neg (by omega)]; rfl
theorem ref02_CompareSets_eq (a b : List RowID) (ha : a.length ≤ 1000000) (hb : b.length ≤ 1000000) : ref02_CompareSets a b = (true, cS a b) := by
  unfold ref02_CompareSets
  obtain ⟨r, h1, h2⟩ := CompareSets_loop a b ha hb (a.length + b.length + Int.toNat 0 + 1) 0 (by simp; omega) (by omega) (by omega)
  rw [show (0 : Int) = ((0 : Nat) : Int) from rfl] at *
  rw [h1]
  simp only [List.drop_zero] at h2
  rcases h2 with rfl | ⟨rfl, h2⟩
  · rfl
  · rw [h2]
    simp only [Int.ofNat_eq_natCast, lt_nat, le0_nat, decide_true, decide_false, Bool.and_self, Bool.true_and, Bool.and_true, cond_true, cond_false, Int.toNat_natCast, eqR, eqR', Bool.not_true, Bool.not_false, bnd, isL, getR, gt_nat]
    by_cases h3 : a.length < b.length
    · simp [h3]
    · by_cases h4 : b.length < a.length <;> simp [h3, h4]

theorem few_loop (l : List (List RowID)) (m : Nat) (hl : l.length ≤ 1000000) : ∀ (n i : Nat), l.length < i + n → i ≤ l.length → ref02_Few_L4 n l m i = (true, if (l.drop i).all (fun s => decide (s.length ≤ m)) then .inr () else .inl false)
  | 0, i, h, h2 => by omega
  | n + 1, i, h, h2 => by
    rw [ref02_Few_L4]
    by_cases hi : i < l.length
    · simp only [Int.ofNat_eq_natCast, lt_nat, le0_nat, decide_true, decide_false, Bool.and_self, Bool.true_and, Bool.and_true, cond_true, cond_false, Int.toNat_natCast, eqR, eqR', Bool.not_true, Bool.not_false, bnd, hi, gt_nat]
      rw [drop_lt hi, wrap_succ (by omega), few_loop l m hl n (i + 1) (by omega) (by omega)]
      generalize l.getD i default = x
      by_cases hx : x.length ≤ m
      · have : ¬ m < x.length := by omega
        simp [hx, this]
      · have : m < x.length := by omega
        simp [hx, this]
    · simp only [Int.ofNat_eq_natCast, lt_nat, le0_nat, decide_true, decide_false, Bool.and_self, Bool.true_and, Bool.and_true, cond_true, cond_false, Int.toNat_natCast, eqR, eqR', Bool.not_true, Bool.not_false, bnd, hi, drop_ge hi]; rfl
theorem ref02_Few_eq (l : List (List RowID)) (k m : Nat) (hk : k ≤ 1000) : ref02_Few l k m = (true, decide (l.length ≤ k) && l.all fun s => decide (s.length ≤ m)) := by
  unfold ref02_Few
  simp only [Int.ofNat_eq_natCast, gt_nat]
  by_cases h : k < l.length
  · have : ¬ l.length ≤ k := by omega
    simp [h, this]
  · have h' : l.length ≤ k := by omega
    simp only [h, h', decide_false, cond_false, decide_true, Bool.true_and]
    rw [show (0 : Int) = ((0 : Nat) : Int) from rfl, few_loop l m (by omega) _ 0 (by simp; omega) (by omega)]
    simp only [List.drop_zero]
    cases l.all fun s => decide (s.length ≤ m) <;> rfl

/-- Each with the one before it. -/
def chain {α : Type} (c : α → α → Int) : α → List α → Bool
  | _, [] => true
  | x, y :: r => decide (c x y < 0) && chain c y r
theorem chain_iff {α : Type} {c : α → α → Int} (h : Ord3 c) : ∀ (l : List α) (x : α), chain c x l = true ↔ SAsc c (x :: l)
  | [], x => by simp [chain]
  | y :: r, x => by
    simp only [chain, Bool.and_eq_true, decide_eq_true_eq, chain_iff h r y]
    constructor
    · rintro ⟨h1, h2⟩
      refine List.pairwise_cons.2 ⟨fun z hz => ?_, h2⟩
      rcases List.mem_cons.1 hz with rfl | hz
      · exact h1
      · exact h.trans _ _ _ h1 ((List.pairwise_cons.1 h2).1 z hz)
    · intro h1
      exact ⟨(List.pairwise_cons.1 h1).1 y (by simp), (List.pairwise_cons.1 h1).2⟩
theorem IsSet_loop (l : List RowID) (hl : l.length ≤ 1000000) : ∀ (n i : Nat), l.length < i + n → 0 < i → i ≤ l.length → ref02_IsSet_L2 n l i = (true, if chain cR (l.getD (i - 1) default) (l.drop i) then .inr () else .inl false)
  | 0, i, h, h0, h2 => by omega
  | n + 1, i, h, h0, h2 => by
    rw [ref02_IsSet_L2]
    by_cases hi : i < l.length
    · have hi1 : i - 1 < l.length := by omega
      rw [wrap_pred h0 (by omega)]
      simp only [Int.ofNat_eq_natCast, lt_nat, le0_nat, decide_true, decide_false, Bool.and_self, Bool.true_and, Bool.and_true, cond_true, cond_false, Int.toNat_natCast, eqR, eqR', Bool.not_true, Bool.not_false, bnd, hi, hi1, ref02_Compare_eq]
      rw [drop_lt hi, wrap_succ (by omega), IsSet_loop l hl n (i + 1) (by omega) (by omega) (by omega)]
      simp only [Nat.add_sub_cancel]
      generalize l.getD i default = x
      generalize l.getD (i - 1) default = y
      by_cases hx : cR y x < 0
      · have h3 : ¬ cR y x ≥ 0 := by omega
        simp [chain, hx, h3]
      · have h3 : cR y x ≥ 0 := by omega
        simp [chain, hx, h3]
    · simp only [Int.ofNat_eq_natCast, lt_nat, le0_nat, decide_true, decide_false, Bool.and_self, Bool.true_and, Bool.and_true, cond_true, cond_false, Int.toNat_natCast, eqR, eqR', Bool.not_true, Bool.not_false, bnd, hi, drop_ge hi]; rfl
theorem ref02_IsSet_eq (l : List RowID) (hl : l.length ≤ 1000000) : ∃ b, ref02_IsSet l = (true, b) ∧ (b = true ↔ SAsc cR l) := by
  unfold ref02_IsSet
  cases l with
  | nil => exact ⟨true, rfl, by simp⟩
  | cons x r =>
    rw [show (1 : Int) = ((1 : Nat) : Int) from rfl, IsSet_loop (x :: r) hl _ 1 (by simp; omega) (by omega) (by simp)]
    simp only [Nat.sub_self, List.getD_cons_zero, List.drop_succ_cons, List.drop_zero]
    refine ⟨chain cR x r, ?_, chain_iff cR_ord r x⟩
    cases chain cR x r <;> rfl
theorem IsFamily_loop (l : List (List RowID)) (hl : l.length ≤ 1000000) (hle : ∀ s ∈ l, s.length ≤ 1000000) (hs : ∀ s ∈ l, SAsc cR s) : ∀ (n i : Nat), l.length < i + n → i ≤ l.length →
    ref02_IsFamily_L2 n l i = (true, if (if i = 0 then (match l with | [] => true | x :: r => chain cS x r) else chain cS (l.getD (i - 1) default) (l.drop i)) then .inr () else .inl false)
  | 0, i, h, h2 => by omega
  | n + 1, i, h, h2 => by
    rw [ref02_IsFamily_L2]
    by_cases hi : i < l.length
    · obtain ⟨b, hb, hb'⟩ := ref02_IsSet_eq (l.getD i default) (hle _ (getD_mem hi))
      have hb2 := hb'.2 (hs _ (getD_mem hi))
      subst hb2
      simp only [Int.ofNat_eq_natCast, lt_nat, le0_nat, decide_true, decide_false, Bool.and_self, Bool.true_and, Bool.and_true, cond_true, cond_false, Int.toNat_natCast, eqR, eqR', Bool.not_true, Bool.not_false, bnd, hi, hb]
      by_cases h0 : i = 0
      · subst h0
        rw [wrap_succ (by omega), IsFamily_loop l hl hle hs n 1 (by omega) (by omega)]
        cases l with
        | nil => simp at hi
        | cons x r => simp
      · have hi1 : i - 1 < l.length := by omega
        have h0' : decide ((i : Int) > 0) = true := by simp; omega
        rw [wrap_pred (by omega) (by omega)]
        simp only [Int.ofNat_eq_natCast, lt_nat, le0_nat, decide_true, decide_false, Bool.and_self, Bool.true_and, Bool.and_true, cond_true, cond_false, Int.toNat_natCast, eqR, eqR', Bool.not_true, Bool.not_false, bnd, hi, hi1, h0', ref02_CompareSets_eq _ _ (hle _ (getD_mem hi1)) (hle _ (getD_mem hi)), h0, if_false]
        rw [drop_lt hi, wrap_succ (by omega), IsFamily_loop l hl hle hs n (i + 1) (by omega) (by omega)]
        simp only [Nat.add_sub_cancel, Nat.succ_ne_zero, if_false]
        generalize l.getD i default = x
        generalize l.getD (i - 1) default = y
        by_cases hx : cS y x < 0
        · have h3 : ¬ cS y x ≥ 0 := by omega
          simp [chain, hx, h3]
        · have h3 : cS y x ≥ 0 := by omega
          simp [chain, hx, h3]
    · simp only [Int.ofNat_eq_natCast, lt_nat, le0_nat, decide_true, decide_false, Bool.and_self, Bool.true_and, Bool.and_true, cond_true, cond_false, Int.toNat_natCast, eqR, eqR', Bool.not_true, Bool.not_false, bnd, hi, drop_ge hi]
      by_cases h0 : i = 0
      · subst h0
        have : l = [] := List.eq_nil_of_length_eq_zero (by omega)
        subst this; rfl
      · simp [h0, chain]
/-- A family answers true. -/
theorem ref02_IsFamily_of (l : List (List RowID)) (hl : l.length ≤ 1000000) (hle : ∀ s ∈ l, s.length ≤ 1000000) (hs : ∀ s ∈ l, SAsc cR s) (h : SAsc cS l) : ref02_IsFamily l = (true, true) := by
  unfold ref02_IsFamily
  rw [show (0 : Int) = ((0 : Nat) : Int) from rfl, IsFamily_loop l hl hle hs _ 0 (by simp) (by omega)]
  cases l with
  | nil => rfl
  | cons x r =>
    simp only [if_true, (chain_iff cS_ord r x).2 h]; rfl
end Go.Proofs.YteopikhooiallaaDoor
/- What the printed functions compute: the program's functions on sets of row identifiers. -/
set_option autoImplicit false
set_option linter.unusedVariables false
set_option linter.unusedSimpArgs false
namespace Go.Proofs.YteopikhooiallaaDoor
open Go Go.Ab

theorem cmp_Compare_int_eq (x y : Int) : cmp_Compare_int x y = (true, if x < y then -1 else if y < x then 1 else 0) := by
  unfold cmp_Compare_int cmp_isNaN_int
  by_cases h1 : x < y
  · simp [h1]
  · by_cases h2 : y < x <;> simp [h1, h2]
/-- The first that is not zero. -/
def firstNZ : List Int → Int
  | [] => 0
  | x :: r => if x = 0 then firstNZ r else x
theorem Or_loop (l : List Int) (hl : l.length ≤ 1000000) : ∀ (n i : Nat), l.length < i + n → i ≤ l.length → ∃ r, cmp_Or_int_L3 n 0 l l.length i = (true, r) ∧ (r = .inl (firstNZ (l.drop i)) ∨ (r = .inr 0 ∧ firstNZ (l.drop i) = 0))
  | 0, i, h, h2 => by omega
  | n + 1, i, h, h2 => by
    rw [cmp_Or_int_L3]
    by_cases hi : i < l.length
    · simp only [Int.ofNat_eq_natCast, lt_nat, le0_nat, decide_true, decide_false, Bool.and_self, Bool.true_and, Bool.and_true, cond_true, cond_false, Int.toNat_natCast, eqR, eqR', Bool.not_true, Bool.not_false, bnd, hi]
      obtain ⟨r, h1, h3⟩ := Or_loop l hl n (i + 1) (by omega) (by omega)
      rw [drop_lt hi, wrap_succ (by omega), h1]
      generalize l.getD i default = x
      by_cases hx : x = 0
      · have e : (x != 0) = false := by simp [hx]
        simp only [e, cond_false, firstNZ, hx, if_true]
        exact ⟨r, rfl, h3⟩
      · have e : (x != 0) = true := by simp [hx]
        simp only [e, cond_true, firstNZ, hx, if_false]
        exact ⟨_, rfl, .inl rfl⟩
    · simp only [Int.ofNat_eq_natCast, lt_nat, le0_nat, decide_true, decide_false, Bool.and_self, Bool.true_and, Bool.and_true, cond_true, cond_false, Int.toNat_natCast, eqR, eqR', Bool.not_true, Bool.not_false, bnd, hi, drop_ge hi]
      exact ⟨_, rfl, .inr ⟨rfl, rfl⟩⟩
theorem cmp_Or_int_eq (l : List Int) (hl : l.length ≤ 1000000) : cmp_Or_int l = (true, firstNZ l) := by
  unfold cmp_Or_int
  obtain ⟨r, h1, h2⟩ := Or_loop l hl (Int.toNat 0 + l.length + (Int.ofNat l.length).toNat + Int.toNat 0 + 1) 0 (by simp; omega) (by omega)
  rw [show Int.ofNat l.length = (l.length : Int) from rfl] at *
  rw [show ((0 : Nat) : Int) = (0 : Int) from rfl] at h1
  rw [h1]
  rw [List.drop_zero] at h2
  rcases h2 with rfl | ⟨rfl, h2⟩
  · rfl
  · rw [h2]; rfl
theorem rowset_Compare_eq (a b : RowID) : rowset_Compare a b = (true, cR a b) := by
  unfold rowset_Compare
  simp only [cmp_Compare_int_eq, bnd, cond_true]
  rw [cmp_Or_int_eq _ (by simp)]
  simp only [cond_true, cR, firstNZ]
  congr 1
  repeat' split
  all_goals first | rfl | omega

theorem CompareFunc_loop (a b : List RowID) (ha : a.length ≤ 1000000) (hb : b.length ≤ 1000000) : ∀ (n i : Nat), a.length < i + n → i ≤ a.length → i ≤ b.length →
    ∃ r, slices_CompareFunc_Lapi_RowID_Lapi_RowID_api_RowID_api_RowID_L2 n a b a a.length i = (true, r) ∧ ((r = .inl (cS (a.drop i) (b.drop i))) ∨ (r = .inr (a, b) ∧ cS (a.drop i) (b.drop i) = if a.length < b.length then -1 else 0))
  | 0, i, h, h2, h3 => by omega
  | n + 1, i, h, h2, h3 => by
    rw [slices_CompareFunc_Lapi_RowID_Lapi_RowID_api_RowID_api_RowID_L2]
    by_cases hi : i < a.length
    · by_cases hi' : i < b.length
      · have hg : ¬ b.length ≤ i := by omega
        simp only [Int.ofNat_eq_natCast, lt_nat, le0_nat, decide_true, decide_false, Bool.and_self, Bool.true_and, Bool.and_true, cond_true, cond_false, Int.toNat_natCast, eqR, eqR', Bool.not_true, Bool.not_false, bnd, hi, hi', ge_nat, hg, rowset_Compare_eq]
        rw [drop_lt hi, drop_lt hi', wrap_succ (by omega)]
        generalize a.getD i default = x
        generalize b.getD i default = y
        by_cases hx : cR x y = 0
        · have e : (cR x y != 0) = false := by simp [hx]
          simp only [e, cond_false, lexc, hx, if_true]
          exact CompareFunc_loop a b ha hb n (i + 1) (by omega) (by omega) (by omega)
        · have e : (cR x y != 0) = true := by simp [hx]
          simp only [e, cond_true, lexc, hx, if_false]
          exact ⟨_, rfl, .inl rfl⟩
      · have hg : b.length ≤ i := by omega
        simp only [Int.ofNat_eq_natCast, lt_nat, le0_nat, decide_true, decide_false, Bool.and_self, Bool.true_and, Bool.and_true, cond_true, cond_false, Int.toNat_natCast, eqR, eqR', Bool.not_true, Bool.not_false, bnd, hi, ge_nat, hg]
        refine ⟨_, rfl, .inl ?_⟩
        rw [drop_lt hi, drop_ge hi']; rfl
    · simp only [Int.ofNat_eq_natCast, lt_nat, le0_nat, decide_true, decide_false, Bool.and_self, Bool.true_and, Bool.and_true, cond_true, cond_false, Int.toNat_natCast, eqR, eqR', Bool.not_true, Bool.not_false, bnd, hi]
      refine ⟨_, rfl, .inr ⟨rfl, ?_⟩⟩
      rw [drop_ge hi]
      by_cases hi' : i < b.length
      · rw [drop_lt hi', if_pos (by omega)]; rfl
      · rw [drop_ge hi', if_neg (by omega)]; rfl
theorem rowset_compareSets_eq (a b : List RowID) (ha : a.length ≤ 1000000) (hb : b.length ≤ 1000000) : rowset_compareSets a b = (true, cS a b) := by
  unfold rowset_compareSets
  have h : slices_CompareFunc_Lapi_RowID_Lapi_RowID_api_RowID_api_RowID a b = (true, cS a b) := by
    unfold slices_CompareFunc_Lapi_RowID_Lapi_RowID_api_RowID_api_RowID
    obtain ⟨r, h1, h2⟩ := CompareFunc_loop a b ha hb (a.length + b.length + a.length + (Int.ofNat a.length).toNat + Int.toNat 0 + 1) 0 (by simp; omega) (by omega) (by omega)
    rw [show (0 : Int) = ((0 : Nat) : Int) from rfl] at *
    rw [show Int.ofNat a.length = (a.length : Int) from rfl] at *
    rw [h1]
    simp only [List.drop_zero] at h2
    rcases h2 with rfl | ⟨rfl, h2⟩
    · rfl
    · rw [h2]
      simp only [Int.ofNat_eq_natCast, lt_nat, le0_nat, decide_true, decide_false, Bool.and_self, Bool.true_and, Bool.and_true, cond_true, cond_false, Int.toNat_natCast, eqR, eqR', Bool.not_true, Bool.not_false, bnd, isL, getR]
      by_cases h3 : a.length < b.length <;> simp [h3]
  rw [h]; rfl

theorem Equal_loop (a b : List RowID) (ha : a.length ≤ 1000000) (hab : a.length = b.length) : ∀ (n i : Nat), a.length < i + n → i ≤ a.length → slices_Equal_Lapi_RowID_api_RowID_L4 n a b a.length i = (true, if a.drop i = b.drop i then .inr () else .inl false)
  | 0, i, h, h2 => by omega
  | n + 1, i, h, h2 => by
    rw [slices_Equal_Lapi_RowID_api_RowID_L4]
    by_cases hi : i < a.length
    · have hi' : i < b.length := by omega
      simp only [Int.ofNat_eq_natCast, lt_nat, le0_nat, decide_true, decide_false, Bool.and_self, Bool.true_and, Bool.and_true, cond_true, cond_false, Int.toNat_natCast, eqR, eqR', Bool.not_true, Bool.not_false, bnd, hi, hi']
      rw [drop_lt hi, drop_lt hi', wrap_succ (by omega), Equal_loop a b ha hab n (i + 1) (by omega) (by omega)]
      generalize a.getD i default = x
      generalize b.getD i default = y
      by_cases hx : x = y <;> simp [hx]
    · have hi' : ¬ i < b.length := by omega
      simp only [Int.ofNat_eq_natCast, lt_nat, le0_nat, decide_true, decide_false, Bool.and_self, Bool.true_and, Bool.and_true, cond_true, cond_false, Int.toNat_natCast, eqR, eqR', Bool.not_true, Bool.not_false, bnd, hi, drop_ge hi, drop_ge hi']; simp
theorem slices_Equal_eq (a b : List RowID) (ha : a.length ≤ 1000000) : slices_Equal_Lapi_RowID_api_RowID a b = (true, decide (a = b)) := by
  unfold slices_Equal_Lapi_RowID_api_RowID
  simp only [Int.ofNat_eq_natCast, bne_nat]
  by_cases hab : a.length = b.length
  · simp only [hab, ne_eq, not_true_eq_false, decide_false, cond_false]
    rw [show (0 : Int) = ((0 : Nat) : Int) from rfl, ← hab, Equal_loop a b ha hab _ 0 (by simp; omega) (by omega)]
    by_cases h : a = b <;> simp [h, isL, getL, bnd]
  · have : a ≠ b := fun e => hab (by rw [e])
    simp [hab, this]
theorem rowset_Family_c1_eq (a b : List RowID) (ha : a.length ≤ 1000000) : rowset_Family_c1 a b = (true, decide (a = b)) := by
  unfold rowset_Family_c1
  rw [slices_Equal_eq a b ha]; rfl

theorem Index_loop (l : List RowID) (v : RowID) (hl : l.length ≤ 1000000) : ∀ (n i : Nat), l.length < i + n → i ≤ l.length → ∃ r, slices_Index_Lapi_RowID_api_RowID_L2 n l l.length i v = (true, r) ∧ ((v ∈ l.drop i ∧ ∃ j : Nat, r = .inl (j : Int)) ∨ (v ∉ l.drop i ∧ r = .inr ()))
  | 0, i, h, h2 => by omega
  | n + 1, i, h, h2 => by
    rw [slices_Index_Lapi_RowID_api_RowID_L2]
    by_cases hi : i < l.length
    · simp only [Int.ofNat_eq_natCast, lt_nat, le0_nat, decide_true, decide_false, Bool.and_self, Bool.true_and, Bool.and_true, cond_true, cond_false, Int.toNat_natCast, eqR, eqR', Bool.not_true, Bool.not_false, bnd, hi]
      obtain ⟨r, h1, h3⟩ := Index_loop l v hl n (i + 1) (by omega) (by omega)
      rw [drop_lt hi, wrap_succ (by omega), h1]
      generalize l.getD i default = x
      by_cases hx : v = x
      · subst hx
        exact ⟨.inl (i : Int), by simp, .inl ⟨by simp, i, rfl⟩⟩
      · refine ⟨r, by simp [hx], ?_⟩
        simpa [hx] using h3
    · simp only [Int.ofNat_eq_natCast, lt_nat, le0_nat, decide_true, decide_false, Bool.and_self, Bool.true_and, Bool.and_true, cond_true, cond_false, Int.toNat_natCast, eqR, eqR', Bool.not_true, Bool.not_false, bnd, hi, drop_ge hi]
      exact ⟨_, rfl, .inr ⟨by simp, rfl⟩⟩
theorem slices_Contains_eq (l : List RowID) (v : RowID) (hl : l.length ≤ 1000000) : slices_Contains_Lapi_RowID_api_RowID l v = (true, decide (v ∈ l)) := by
  have h : ∃ k : Int, slices_Index_Lapi_RowID_api_RowID l v = (true, k) ∧ (0 ≤ k ↔ v ∈ l) := by
    unfold slices_Index_Lapi_RowID_api_RowID
    obtain ⟨r, h1, h2⟩ := Index_loop l v hl (l.length + (Int.ofNat l.length).toNat + Int.toNat 0 + 1) 0 (by simp; omega) (by omega)
    rw [show (0 : Int) = ((0 : Nat) : Int) from rfl] at *
    rw [show Int.ofNat l.length = (l.length : Int) from rfl] at *
    rw [h1]
    rw [List.drop_zero] at h2
    rcases h2 with ⟨h2, j, rfl⟩ | ⟨h2, rfl⟩
    · exact ⟨(j : Int), rfl, by simp [h2]⟩
    · exact ⟨-1, rfl, by simp [h2]⟩
  obtain ⟨k, h1, h2⟩ := h
  unfold slices_Contains_Lapi_RowID_api_RowID
  rw [h1]
  simp only [bnd, cond_true]
  by_cases h3 : v ∈ l
  · have := h2.2 h3; simp [h3, this]
  · have : ¬ 0 ≤ k := fun h => h3 (h2.1 h)
    simp [h3]; omega
theorem rowset_Minus_c1_eq (x : RowID) (b : List RowID) (hb : b.length ≤ 1000000) : rowset_Minus_c1 x b = (true, decide (x ∈ b)) := by
  unfold rowset_Minus_c1
  rw [slices_Contains_eq b x hb]; rfl

theorem IndexFunc_loop (l b : List RowID) (hl : l.length ≤ 1000000) (hb : b.length ≤ 1000000) : ∀ (n i : Nat), l.length < i + n → i ≤ l.length →
    ∃ r, slices_IndexFunc_Lapi_RowID_api_RowID_L2 n l b l.length i = (true, r) ∧ ((∃ j : Nat, r = .inl (j : Int) ∧ i ≤ j ∧ j < l.length ∧ l.getD j default ∈ b ∧ l.drop i = (l.take j).drop i ++ l.drop j ∧ ∀ x ∈ (l.take j).drop i, x ∉ b) ∨ (r = .inr () ∧ ∀ x ∈ l.drop i, x ∉ b))
  | 0, i, h, h2 => by omega
  | n + 1, i, h, h2 => by
    rw [slices_IndexFunc_Lapi_RowID_api_RowID_L2]
    by_cases hi : i < l.length
    · simp only [Int.ofNat_eq_natCast, lt_nat, le0_nat, decide_true, decide_false, Bool.and_self, Bool.true_and, Bool.and_true, cond_true, cond_false, Int.toNat_natCast, eqR, eqR', Bool.not_true, Bool.not_false, bnd, hi, rowset_Minus_c1_eq _ b hb]
      obtain ⟨r, h1, h3⟩ := IndexFunc_loop l b hl hb n (i + 1) (by omega) (by omega)
      rw [wrap_succ (by omega), h1]
      by_cases hx : l.getD i default ∈ b
      · refine ⟨.inl (i : Int), by simp only [hx, decide_true, cond_true], .inl ⟨i, rfl, Nat.le_refl _, hi, hx, ?_, ?_⟩⟩
        · rw [List.drop_take, Nat.sub_self]; simp
        · rw [List.drop_take, Nat.sub_self]; simp
      · refine ⟨r, by simp only [hx, decide_false, cond_false], ?_⟩
        rcases h3 with ⟨j, rfl, h4, h5, h6, h7, h8⟩ | ⟨rfl, h4⟩
        · have e : (l.take j).drop i = l.getD i default :: (l.take j).drop (i + 1) := by
            rw [List.drop_take, List.drop_take, drop_lt hi, show j - i = (j - (i + 1)) + 1 by omega, List.take_succ_cons]
          refine .inl ⟨j, rfl, by omega, h5, h6, ?_, ?_⟩
          · rw [drop_lt hi, h7, e]; rfl
          · rw [e]
            intro x hx'
            rcases List.mem_cons.1 hx' with rfl | hx'
            · exact hx
            · exact h8 x hx'
        · refine .inr ⟨rfl, ?_⟩
          rw [drop_lt hi]
          intro x hx'
          rcases List.mem_cons.1 hx' with rfl | hx'
          · exact hx
          · exact h4 x hx'
    · simp only [Int.ofNat_eq_natCast, lt_nat, le0_nat, decide_true, decide_false, Bool.and_self, Bool.true_and, Bool.and_true, cond_true, cond_false, Int.toNat_natCast, eqR, eqR', Bool.not_true, Bool.not_false, bnd, hi]
      exact ⟨_, rfl, .inr ⟨rfl, by rw [drop_ge hi]; simp⟩⟩
theorem slices_IndexFunc_eq (l b : List RowID) (hl : l.length ≤ 1000000) (hb : b.length ≤ 1000000) :
    (∃ j : Nat, slices_IndexFunc_Lapi_RowID_api_RowID l b = (true, (j : Int)) ∧ j < l.length ∧ l.getD j default ∈ b ∧ ∀ x ∈ l.take j, x ∉ b) ∨ (slices_IndexFunc_Lapi_RowID_api_RowID l b = (true, -1) ∧ ∀ x ∈ l, x ∉ b) := by
  unfold slices_IndexFunc_Lapi_RowID_api_RowID
  obtain ⟨r, h1, h2⟩ := IndexFunc_loop l b hl hb (l.length + b.length + (Int.ofNat l.length).toNat + Int.toNat 0 + 1) 0 (by simp; omega) (by omega)
  rw [show (0 : Int) = ((0 : Nat) : Int) from rfl] at *
  rw [show Int.ofNat l.length = (l.length : Int) from rfl] at *
  rw [h1]
  simp only [List.drop_zero] at h2
  rcases h2 with ⟨j, rfl, _, h3, h4, _, h5⟩ | ⟨rfl, h3⟩
  · exact .inl ⟨j, rfl, h3, h4, h5⟩
  · exact .inr ⟨rfl, h3⟩

theorem DeleteFunc_loop (b : List RowID) (hb : b.length ≤ 1000000) : ∀ (n i j : Nat) (s : List RowID), s.length ≤ 1000000 → s.length < j + n → j ≤ s.length → i ≤ j →
    ∃ (i' : Nat) (s' : List RowID), slices_DeleteFunc_Lapi_RowID_api_RowID_L5 n b i j s = (true, ((i' : Int), s')) ∧ s'.length = s.length ∧ i' ≤ s.length ∧ s'.take i' = s.take i ++ (s.drop j).filter fun x => !decide (x ∈ b)
  | 0, i, j, s, hs, h, h2, h3 => by omega
  | n + 1, i, j, s, hs, h, h2, h3 => by
    rw [slices_DeleteFunc_Lapi_RowID_api_RowID_L5]
    by_cases hj : j < s.length
    · have hi : i < s.length := by omega
      simp only [Int.ofNat_eq_natCast, lt_nat, le0_nat, decide_true, decide_false, Bool.and_self, Bool.true_and, Bool.and_true, cond_true, cond_false, Int.toNat_natCast, eqR, eqR', Bool.not_true, Bool.not_false, bnd, hj, hi, rowset_Minus_c1_eq _ b hb]
      rw [drop_lt hj]
      by_cases hx : s.getD j default ∈ b
      · simp only [Int.ofNat_eq_natCast, lt_nat, le0_nat, decide_true, decide_false, Bool.and_self, Bool.true_and, Bool.and_true, cond_true, cond_false, Int.toNat_natCast, eqR, eqR', Bool.not_true, Bool.not_false, bnd, hx, List.filter_cons, Bool.false_eq_true, if_false]
        rw [wrap_succ (by omega)]
        exact DeleteFunc_loop b hb n i (j + 1) s hs (by omega) (by omega) (by omega)
      · simp only [Int.ofNat_eq_natCast, lt_nat, le0_nat, decide_true, decide_false, Bool.and_self, Bool.true_and, Bool.and_true, cond_true, cond_false, Int.toNat_natCast, eqR, eqR', Bool.not_true, Bool.not_false, bnd, hx, List.filter_cons, if_true]
        rw [wrap_succ (by omega), wrap_succ (by omega)]
        obtain ⟨i', s', h4, h5, h6, h7⟩ := DeleteFunc_loop b hb n (i + 1) (j + 1) (s.set i (s.getD j default)) (by simpa using hs) (by simp; omega) (by simp; omega) (by omega)
        refine ⟨i', s', h4, by simpa using h5, by simpa using h6, ?_⟩
        rw [h7, take_set_succ _ hi, drop_set_lt _ (by omega)]
        simp
    · simp only [Int.ofNat_eq_natCast, lt_nat, le0_nat, decide_true, decide_false, Bool.and_self, Bool.true_and, Bool.and_true, cond_true, cond_false, Int.toNat_natCast, eqR, eqR', Bool.not_true, Bool.not_false, bnd, hj]
      exact ⟨i, s, rfl, rfl, by omega, by rw [drop_ge hj]; simp⟩
theorem slices_DeleteFunc_eq (s b : List RowID) (hs : s.length ≤ 1000000) (hb : b.length ≤ 1000000) : slices_DeleteFunc_Lapi_RowID_api_RowID s b = (true, s.filter fun x => !decide (x ∈ b)) := by
  unfold slices_DeleteFunc_Lapi_RowID_api_RowID
  rcases slices_IndexFunc_eq s b hs hb with ⟨j, h1, h2, h3, h4⟩ | ⟨h1, h2⟩
  · rw [h1]
    have e : ((j : Int) == -1) = false := by simp
    simp only [bnd, cond_true, e, cond_false]
    rw [wrap_succ (by omega)]
    obtain ⟨i', s', h5, h6, h7, h8⟩ := DeleteFunc_loop b hb (b.length + (j : Int).toNat + ((j + 1 : Nat) : Int).toNat + s.length + 1) j (j + 1) s hs (by simp; omega) (by omega) (by omega)
    rw [h5]
    have h7' : i' ≤ s'.length := by omega
    have e2 : i' + (s'.length - i') ≤ s'.length := by omega
    have e3 : i' ≤ (List.take i' s' ++ List.replicate (s'.length - i') (RowID.mk 0 0) ++ List.drop (i' + (s'.length - i')) s').length := by simp; omega
    simp only [Int.ofNat_eq_natCast, Int.toNat_natCast, le0_nat, le_nat, h7', e2, e3, Nat.le_refl, decide_true, Bool.and_self, cond_true, Int.le_refl, Int.toNat_zero, Nat.sub_zero]
    rw [clear_take _ h7', h8]
    congr 1
    conv => rhs; rw [← List.take_append_drop j s, List.filter_append, drop_lt h2, List.filter_cons]
    simp only [h3, decide_true, Bool.not_true, Bool.false_eq_true, if_false]
    congr 1
    refine (List.filter_eq_self.2 fun x hx => ?_).symm
    simp [h4 x hx]
  · rw [h1]
    simp only [bnd, cond_true]
    have : s.filter (fun x => !decide (x ∈ b)) = s := List.filter_eq_self.2 fun x hx => by simp [h2 x hx]
    rw [this]; rfl

/-! ### compaction -/
abbrev pR (x y : RowID) : Bool := decide (x = y)
theorem Compact_in : ∀ (n k k0 m k2 : Nat) (s : List RowID) (x : RowID) (rest : List RowID), s.length ≤ 1000000 → k0 + m = s.length → 1 ≤ k2 → k2 ≤ m → k ≤ k0 + k2 - 1 → s.drop (k0 + k2 - 1) = x :: rest → m < k2 + n →
    ∃ (k' : Nat) (s' : List RowID), slices_Compact_Lapi_RowID_api_RowID_L9 n k k0 m k2 s = (true, ((k' : Int), s')) ∧ s'.length = s.length ∧ k' ≤ s.length ∧ s'.take k' = s.take k ++ adjFrom pR x rest
  | 0, k, k0, m, k2, s, x, rest, hs, hm, h1, h2, h3, hd, h4 => by omega
  | n + 1, k, k0, m, k2, s, x, rest, hs, hm, h1, h2, h3, hd, h4 => by
    rw [slices_Compact_Lapi_RowID_api_RowID_L9]
    by_cases hk : k2 < m
    · have hk1 : k2 - 1 < m := by omega
      have hkl : k < s.length := by omega
      rw [wrap_pred (by omega) (by omega)]
      simp only [Int.ofNat_eq_natCast, lt_nat, le0_nat, decide_true, decide_false, Bool.and_self, Bool.true_and, Bool.and_true, cond_true, cond_false, Int.toNat_natCast, eqR, eqR', Bool.not_true, Bool.not_false, bnd, hk, hk1, hkl]
      have e1 : k0 + k2 - 1 < s.length := by omega
      have e2 : k0 + k2 < s.length := by omega
      have e3 : k0 + (k2 - 1) = k0 + k2 - 1 := by omega
      rw [drop_lt e1, show k0 + k2 - 1 + 1 = k0 + k2 by omega] at hd
      obtain ⟨hx, hr⟩ := List.cons.inj hd
      rw [e3, hx, ← hr, drop_lt e2]
      generalize hy : s.getD (k0 + k2) default = y
      by_cases hxy : y = x
      · subst hxy
        simp only [decide_true, Bool.not_true, cond_false, adjFrom, pR, cond_true]
        rw [wrap_succ (by omega)]
        exact Compact_in n k k0 m (k2 + 1) s y _ hs hm (by omega) (by omega) (by omega) (by rw [show k0 + (k2 + 1) - 1 = k0 + k2 by omega, drop_lt e2, hy]) (by omega)
      · simp only [hxy, decide_false, Bool.not_false, cond_true, adjFrom, pR, cond_false]
        rw [wrap_succ (by omega), wrap_succ (by omega)]
        obtain ⟨k', s', h5, h6, h7, h8⟩ := Compact_in n (k + 1) k0 m (k2 + 1) (s.set k y) y (s.drop (k0 + k2 + 1)) (by simpa using hs) (by simpa using hm) (by omega) (by omega) (by omega)
          (by rw [show k0 + (k2 + 1) - 1 = k0 + k2 by omega, drop_set_lt _ (by omega), drop_lt e2, hy]) (by omega)
        refine ⟨k', s', h5, by simpa using h6, by simpa using h7, ?_⟩
        rw [h8, take_set_succ _ hkl]; simp
    · simp only [Int.ofNat_eq_natCast, lt_nat, le0_nat, decide_true, decide_false, Bool.and_self, Bool.true_and, Bool.and_true, cond_true, cond_false, Int.toNat_natCast, eqR, eqR', Bool.not_true, Bool.not_false, bnd, hk]
      refine ⟨k, s, rfl, rfl, by omega, ?_⟩
      have : rest = [] := by
        have h5 := congrArg List.length hd
        simp at h5
        exact List.eq_nil_of_length_eq_zero (by omega)
      rw [this]; simp [adjFrom]
theorem Compact_out : ∀ (n k : Nat) (s : List RowID), s.length ≤ 1000000 → 1 ≤ k → k ≤ s.length → s.length < k + n → adj pR s = s.take k ++ adjFrom pR (s.getD (k - 1) default) (s.drop k) →
    ∃ r, slices_Compact_Lapi_RowID_api_RowID_L4 n k s = (true, r) ∧ ((∃ (m : Nat) (s' : List RowID), r = .inl (m, s') ∧ s'.take m = adj pR s) ∨ (r = .inr s ∧ adj pR s = s))
  | 0, k, s, hs, h1, h2, h3, ha => by omega
  | n + 1, k, s, hs, h1, h2, h3, ha => by
    rw [slices_Compact_Lapi_RowID_api_RowID_L4]
    by_cases hk : k < s.length
    · have hk1 : k - 1 < s.length := by omega
      have hkl : k ≤ s.length := by omega
      rw [wrap_pred (by omega) (by omega)]
      simp only [Int.ofNat_eq_natCast, lt_nat, le_nat, le0_nat, hk, hk1, hkl, Nat.le_refl, decide_true, Bool.and_self, cond_true, Int.toNat_natCast, eqR]
      rw [drop_lt hk] at ha
      by_cases hxy : s.getD k default = s.getD (k - 1) default
      · simp only [hxy, decide_true, cond_true]
        obtain ⟨k', s', h5, h6, h7, h8⟩ := Compact_in (k + k + (s.length - k) + Int.toNat 1 + s.length + 1) k k (s.length - k) 1 s (s.getD k default) (s.drop (k + 1)) hs (by omega) (by omega) (by omega) (by omega)
          (by rw [show k + 1 - 1 = k by omega, drop_lt hk]) (by omega)
        rw [show (1 : Int) = ((1 : Nat) : Int) from rfl] at *
        rw [h5]
        have h7' : k' ≤ s'.length := by omega
        have e2 : k' + (s'.length - k') ≤ s'.length := by omega
        have e3 : k' ≤ (List.take k' s' ++ List.replicate (s'.length - k') (RowID.mk 0 0) ++ List.drop (k' + (s'.length - k')) s').length := by simp; omega
        simp only [bnd, Int.ofNat_eq_natCast, Int.toNat_natCast, le0_nat, le_nat, h7', e2, e3, Nat.le_refl, decide_true, Bool.and_self, cond_true, Int.le_refl, Int.toNat_zero, Nat.sub_zero]
        refine ⟨_, rfl, .inl ⟨_, _, rfl, ?_⟩⟩
        rw [clear_take _ h7', h8, ha]
        simp only [adjFrom, pR, hxy, decide_true, cond_true]
      · simp only [hxy, decide_false, cond_false]
        rw [wrap_succ (by omega)]
        refine Compact_out n (k + 1) s hs (by omega) (by omega) (by omega) ?_
        rw [ha, take_succ_getD hk]
        simp only [adjFrom, pR, hxy, decide_false, cond_false, Nat.add_sub_cancel]
        simp
    · simp only [Int.ofNat_eq_natCast, lt_nat, le0_nat, decide_true, decide_false, Bool.and_self, Bool.true_and, Bool.and_true, cond_true, cond_false, Int.toNat_natCast, eqR, eqR', Bool.not_true, Bool.not_false, bnd, hk]
      refine ⟨_, rfl, .inr ⟨rfl, ?_⟩⟩
      rw [ha, drop_ge hk, List.take_of_length_le (by omega)]
      simp [adjFrom]
theorem slices_Compact_eq (s : List RowID) (hs : s.length ≤ 1000000) : slices_Compact_Lapi_RowID_api_RowID s = (true, adj pR s) := by
  unfold slices_Compact_Lapi_RowID_api_RowID
  have h2 : decide (Int.ofNat s.length < 2) = decide (s.length < 2) := by simp; omega
  rw [h2]
  by_cases h : s.length < 2
  · simp only [h, decide_true, cond_true]
    match s, h with
    | [], _ => rfl
    | [x], _ => rfl
    | _ :: _ :: _, h => simp at h; omega
  · simp only [h, decide_false, cond_false]
    have ha : adj pR s = s.take 1 ++ adjFrom pR (s.getD (1 - 1) default) (s.drop 1) := by
      cases s with
      | nil => simp at h
      | cons x r => simp [adj]
    obtain ⟨r, h3, h4⟩ := Compact_out (Int.toNat 1 + s.length + 1) 1 s hs (by omega) (by omega) (by simp; omega) ha
    rw [show (1 : Int) = ((1 : Nat) : Int) from rfl] at *
    rw [h3]
    rcases h4 with ⟨m, s', rfl, h4⟩ | ⟨rfl, h4⟩
    · simp only [bnd, cond_true, isL, getL]; rw [h4]
    · simp only [bnd, cond_true, isL, getR, cond_false]; rw [h4]

abbrev pS (x y : List RowID) : Bool := decide (x = y)
theorem CompactFunc_in : ∀ (n k k0 m k2 : Nat) (s : List (List RowID)) (x : List RowID) (rest : List (List RowID)), (∀ z ∈ s, z.length ≤ 1000000) → s.length ≤ 1000000 → k0 + m = s.length → 1 ≤ k2 → k2 ≤ m → k ≤ k0 + k2 - 1 → s.drop (k0 + k2 - 1) = x :: rest → m < k2 + n →
    ∃ (k' : Nat) (s' : List (List RowID)), slices_CompactFunc_LLapi_RowID_Lapi_RowID_L9 n k k0 m k2 s = (true, ((k' : Int), s')) ∧ s'.length = s.length ∧ k' ≤ s.length ∧ s'.take k' = s.take k ++ adjFrom pS x rest
  | 0, k, k0, m, k2, s, x, rest, hz, hs, hm, h1, h2, h3, hd, h4 => by omega
  | n + 1, k, k0, m, k2, s, x, rest, hz, hs, hm, h1, h2, h3, hd, h4 => by
    rw [slices_CompactFunc_LLapi_RowID_Lapi_RowID_L9]
    by_cases hk : k2 < m
    · have hk1 : k2 - 1 < m := by omega
      have hkl : k < s.length := by omega
      have e1 : k0 + k2 - 1 < s.length := by omega
      have e2 : k0 + k2 < s.length := by omega
      have e3 : k0 + (k2 - 1) = k0 + k2 - 1 := by omega
      rw [wrap_pred (by omega) (by omega)]
      simp only [Int.ofNat_eq_natCast, lt_nat, le0_nat, decide_true, decide_false, Bool.and_self, Bool.true_and, Bool.and_true, cond_true, cond_false, Int.toNat_natCast, eqR, eqR', Bool.not_true, Bool.not_false, bnd, hk, hk1, hkl, rowset_Family_c1_eq _ _ (hz _ (getD_mem e2))]
      rw [drop_lt e1, show k0 + k2 - 1 + 1 = k0 + k2 by omega] at hd
      obtain ⟨hx, hr⟩ := List.cons.inj hd
      have hym := hz _ (getD_mem e2)
      rw [e3, hx, ← hr, drop_lt e2]
      generalize hy : s.getD (k0 + k2) default = y at hym
      by_cases hxy : y = x
      · subst hxy
        simp only [decide_true, Bool.not_true, cond_false, adjFrom, pS, cond_true]
        rw [wrap_succ (by omega)]
        exact CompactFunc_in n k k0 m (k2 + 1) s y _ hz hs hm (by omega) (by omega) (by omega) (by rw [show k0 + (k2 + 1) - 1 = k0 + k2 by omega, drop_lt e2, hy]) (by omega)
      · simp only [hxy, decide_false, Bool.not_false, cond_true, adjFrom, pS, cond_false]
        rw [wrap_succ (by omega), wrap_succ (by omega)]
        obtain ⟨k', s', h5, h6, h7, h8⟩ := CompactFunc_in n (k + 1) k0 m (k2 + 1) (s.set k y) y (s.drop (k0 + k2 + 1))
          (fun z hz' => by
            rcases List.mem_or_eq_of_mem_set hz' with h | h
            · exact hz z h
            · subst h; exact hym) (by simpa using hs) (by simpa using hm) (by omega) (by omega) (by omega)
          (by rw [show k0 + (k2 + 1) - 1 = k0 + k2 by omega, drop_set_lt _ (by omega), drop_lt e2, hy]) (by omega)
        refine ⟨k', s', h5, by simpa using h6, by simpa using h7, ?_⟩
        rw [h8, take_set_succ _ hkl]; simp
    · simp only [Int.ofNat_eq_natCast, lt_nat, le0_nat, decide_true, decide_false, Bool.and_self, Bool.true_and, Bool.and_true, cond_true, cond_false, Int.toNat_natCast, eqR, eqR', Bool.not_true, Bool.not_false, bnd, hk]
      refine ⟨k, s, rfl, rfl, by omega, ?_⟩
      have : rest = [] := by
        have h5 := congrArg List.length hd
        simp at h5
        exact List.eq_nil_of_length_eq_zero (by omega)
      rw [this]; simp [adjFrom]
theorem CompactFunc_out : ∀ (n k : Nat) (s : List (List RowID)), (∀ z ∈ s, z.length ≤ 1000000) → s.length ≤ 1000000 → 1 ≤ k → k ≤ s.length → s.length < k + n → adj pS s = s.take k ++ adjFrom pS (s.getD (k - 1) default) (s.drop k) →
    ∃ r, slices_CompactFunc_LLapi_RowID_Lapi_RowID_L4 n k s = (true, r) ∧ ((∃ (m : Nat) (s' : List (List RowID)), r = .inl (m, s') ∧ s'.take m = adj pS s) ∨ (r = .inr s ∧ adj pS s = s))
  | 0, k, s, hz, hs, h1, h2, h3, ha => by omega
  | n + 1, k, s, hz, hs, h1, h2, h3, ha => by
    rw [slices_CompactFunc_LLapi_RowID_Lapi_RowID_L4]
    by_cases hk : k < s.length
    · have hk1 : k - 1 < s.length := by omega
      have hkl : k ≤ s.length := by omega
      rw [wrap_pred (by omega) (by omega)]
      simp only [Int.ofNat_eq_natCast, lt_nat, le_nat, le0_nat, hk, hk1, hkl, Nat.le_refl, decide_true, Bool.and_self, cond_true, Int.toNat_natCast, rowset_Family_c1_eq _ _ (hz _ (getD_mem hk))]
      rw [drop_lt hk] at ha
      by_cases hxy : s.getD k default = s.getD (k - 1) default
      · simp only [hxy, decide_true, cond_true, bnd]
        obtain ⟨k', s', h5, h6, h7, h8⟩ := CompactFunc_in (k + k + (s.length - k) + Int.toNat 1 + s.length + 1) k k (s.length - k) 1 s (s.getD k default) (s.drop (k + 1)) hz hs (by omega) (by omega) (by omega) (by omega)
          (by rw [show k + 1 - 1 = k by omega, drop_lt hk]) (by omega)
        rw [show (1 : Int) = ((1 : Nat) : Int) from rfl] at *
        rw [h5]
        have h7' : k' ≤ s'.length := by omega
        have e2 : k' + (s'.length - k') ≤ s'.length := by omega
        have e3 : k' ≤ (List.take k' s' ++ List.replicate (s'.length - k') [] ++ List.drop (k' + (s'.length - k')) s').length := by simp; omega
        simp only [bnd, Int.ofNat_eq_natCast, Int.toNat_natCast, le0_nat, le_nat, h7', e2, e3, Nat.le_refl, decide_true, Bool.and_self, cond_true, Int.le_refl, Int.toNat_zero, Nat.sub_zero]
        refine ⟨_, rfl, .inl ⟨_, _, rfl, ?_⟩⟩
        rw [clear_take _ h7', h8, ha]
        simp only [adjFrom, pS, hxy, decide_true, cond_true]
      · simp only [hxy, decide_false, cond_false, bnd, cond_true]
        rw [wrap_succ (by omega)]
        refine CompactFunc_out n (k + 1) s hz hs (by omega) (by omega) (by omega) ?_
        rw [ha, take_succ_getD hk]
        simp only [adjFrom, pS, hxy, decide_false, cond_false, Nat.add_sub_cancel]
        simp
    · simp only [Int.ofNat_eq_natCast, lt_nat, le0_nat, decide_true, decide_false, Bool.and_self, Bool.true_and, Bool.and_true, cond_true, cond_false, Int.toNat_natCast, eqR, eqR', Bool.not_true, Bool.not_false, bnd, hk]
      refine ⟨_, rfl, .inr ⟨rfl, ?_⟩⟩
      rw [ha, drop_ge hk, List.take_of_length_le (by omega)]
      simp [adjFrom]
theorem slices_CompactFunc_eq (s : List (List RowID)) (hz : ∀ z ∈ s, z.length ≤ 1000000) (hs : s.length ≤ 1000000) : slices_CompactFunc_LLapi_RowID_Lapi_RowID s = (true, adj pS s) := by
  unfold slices_CompactFunc_LLapi_RowID_Lapi_RowID
  have h2 : decide (Int.ofNat s.length < 2) = decide (s.length < 2) := by simp; omega
  rw [h2]
  by_cases h : s.length < 2
  · simp only [h, decide_true, cond_true]
    match s, h with
    | [], _ => rfl
    | [x], _ => rfl
    | _ :: _ :: _, h => simp at h; omega
  · simp only [h, decide_false, cond_false]
    have ha : adj pS s = s.take 1 ++ adjFrom pS (s.getD (1 - 1) default) (s.drop 1) := by
      cases s with
      | nil => simp at h
      | cons x r => simp [adj]
    obtain ⟨r, h3, h4⟩ := CompactFunc_out (Int.toNat 1 + s.length + 1) 1 s hz hs (by omega) (by omega) (by simp; omega) ha
    rw [show (1 : Int) = ((1 : Nat) : Int) from rfl] at *
    rw [h3]
    rcases h4 with ⟨m, s', rfl, h4⟩ | ⟨rfl, h4⟩
    · simp only [bnd, cond_true, isL, getL]; rw [h4]
    · simp only [bnd, cond_true, isL, getR, cond_false]; rw [h4]

/-! ### sets -/
theorem slices_SortFunc_row (l : List RowID) (hl : l.length ≤ 1000000) : ∃ ok : SortOK (fun a b => rowset_Compare a b) l, slices_SortFunc_Lapi_RowID_api_RowID l = (true, isort (fun a b => rowset_Compare a b) l) := by
  have ok : SortOK (fun a b => rowset_Compare a b) l := sortOK_of cR_ord (by omega) fun x _ y _ => rowset_Compare_eq x y
  refine ⟨ok, ?_⟩
  unfold slices_SortFunc_Lapi_RowID_api_RowID sortFunc
  rw [decide_eq_true ok]
theorem rowset_Normalize_eq (l : List RowID) (hl : l.length ≤ 1000000) : rowset_Normalize l = (true, nR l) := by
  unfold rowset_Normalize slices_Clone_Lapi_RowID_api_RowID
  have e1 : l.length * 16 ≤ reach := reach_of (by omega) (by omega)
  obtain ⟨ok, h⟩ := slices_SortFunc_row l hl
  simp only [e1, decide_true, bnd, cond_true, h]
  rw [slices_Compact_eq _ (by rw [(isort_perm _ l).length_eq]; exact hl)]
  simp only [cond_true]
  rw [adj_isort cR_ord (fun x y => by simp) ok fun x _ y _ => by rw [rowset_Compare_eq]]
theorem rowset_Union_eq (a b : List RowID) (h : a.length + b.length ≤ 1000000) : rowset_Union a b = (true, nR (a ++ b)) := by
  unfold rowset_Union slices_Clone_Lapi_RowID_api_RowID
  have e1 : a.length * 16 ≤ reach := reach_of (by omega) (by omega)
  have e2 : (a.length + b.length) * 16 ≤ reach := reach_of (by omega) (by omega)
  simp only [e1, e2, decide_true, bnd, cond_true]
  rw [rowset_Normalize_eq (a ++ b) (by simp; omega)]; rfl
theorem rowset_Minus_eq (a b : List RowID) (ha : a.length ≤ 1000000) (hb : b.length ≤ 1000000) : rowset_Minus a b = (true, (nR a).filter fun x => !decide (x ∈ b)) := by
  unfold rowset_Minus
  have h1 : (nR a).length ≤ a.length := snorm_length cR_ord a
  rw [rowset_Normalize_eq a ha]
  simp only [bnd, cond_true]
  rw [slices_DeleteFunc_eq _ _ (by omega) hb]; rfl
theorem rowset_Subset_eq (a b : List RowID) (ha : a.length ≤ 1000000) (hb : b.length ≤ 1000000) : rowset_Subset a b = (true, a.all fun x => decide (x ∈ b)) := by
  unfold rowset_Subset
  rw [rowset_Minus_eq a b ha hb]
  simp only [bnd, cond_true]
  congr 1
  have : (Int.ofNat ((nR a).filter fun x => !decide (x ∈ b)).length == (0 : Int)) = decide (((nR a).filter fun x => !decide (x ∈ b)).length = 0) := beq_nat _ 0
  rw [this, Bool.eq_iff_iff, decide_eq_true_eq, List.length_eq_zero_iff, List.filter_eq_nil_iff, List.all_eq_true]
  constructor
  · intro h x hx
    have := h x ((snorm_mem cR_ord a x).2 hx)
    simpa using this
  · intro h x hx
    have := h x ((snorm_mem cR_ord a x).1 hx)
    simpa using this
end Go.Proofs.YteopikhooiallaaDoor
/- Functions of the program as plain functions, with their contracts. Printed by program. -/
set_option autoImplicit false
set_option linter.unusedVariables false
set_option linter.unusedSimpArgs false
namespace Go.Proofs.YteopikhooiallaaDoor
open Go Go.Ab
/-! ### lineage/lineagelaw02.RowsetOrder -/
noncomputable def law02_RowsetOrder_L10 : Nat → List RowID → Int → List RowID → Bool × (Bool ⊕ (List RowID × List RowID))
  | 0, _, _, _ => (false, .inl default)
  | n + 1, l, i, s => bif decide (i < Int.ofNat s.length) then bif decide ((0 : Int) ≤ IntKind.i64.wrap (i - (1 : Int))) && decide (IntKind.i64.wrap (i - (1 : Int)) < Int.ofNat s.length) then bif decide ((0 : Int) ≤ i) && decide (i < Int.ofNat s.length) then bnd (rowset_Compare (s.getD (IntKind.i64.wrap (i - (1 : Int))).toNat default) (s.getD i.toNat default)) (fun r0 => bif decide (r0 ≥ (0 : Int)) then (true, .inl false) else law02_RowsetOrder_L10 n l (IntKind.i64.wrap (i + (1 : Int))) s) (false, .inl default) else (false, .inl default) else (false, .inl default) else (true, .inr (l, s))
noncomputable def law02_RowsetOrder_tr10 (r : Bool ⊕ (List RowID × List RowID)) : LTree ty := .ite (isL r) (.done .ret [.lit (.bool (getL r))] []) (.done (.exit 0) [.sl 23 ((getR r).1), .own 356] [.arr 23 ((getR r).2) false])
noncomputable def law02_RowsetOrder_V10 : LL ty (List RowID × Unit × Int × Unit) := llCons (lSl 23) (llCons (lOwn 356) (llCons (lInt .i64) llNil))
noncomputable def law02_RowsetOrder_B10 : BL ty (List RowID × Unit) := bArr 23 false (bNil)
noncomputable def law02_RowsetOrder_sp10 : LSpec ty := mkLoop law02_RowsetOrder_V10 law02_RowsetOrder_B10 fun x y => ((law02_RowsetOrder_L10 (x.1.length + Int.toNat x.2.2.1 + y.1.length + 1) x.1 x.2.2.1 y.1).1, law02_RowsetOrder_tr10 (law02_RowsetOrder_L10 (x.1.length + Int.toNat x.2.2.1 + y.1.length + 1) x.1 x.2.2.1 y.1).2)
noncomputable def law02_RowsetOrder_cx : Cx ty := { base0 with nt := 89, spec := fun g => List.lookup g [(8, law02_awake_spec), (9, rowset_Compare_spec), (10, rowset_Normalize_spec), (11, rowset_Subset_spec)], io := fun g => (List.lookup g []).getD [], head := fun i => (List.lookup i [(10, [(3, .keep), (12, .keep), (13, .keep)])]).getD [], out := outOf [(10, 1, [(3, .keep), (12, .keep)]), (10, 0, [(8, .keep)])], loops := fun i => List.lookup i [(10, law02_RowsetOrder_sp10)] }
theorem law02_RowsetOrder_round10 {R : Type} (H : List (AV ty) → List (Blk ty) → Option R) (K : Ex → List (AV ty) → List (Blk ty) → Option R) (l : List RowID) (i : Int) (s : List RowID) : roundK law02_RowsetOrder_cx (lp (body Tryd.f3) 0) H K [.sl 23 l, .own 356, .lit (.int .i64 i)] [.arr 23 s false] = bif decide (i < Int.ofNat s.length) then bif decide ((0 : Int) ≤ IntKind.i64.wrap (i - (1 : Int))) && decide (IntKind.i64.wrap (i - (1 : Int)) < Int.ofNat s.length) then bif decide ((0 : Int) ≤ i) && decide (i < Int.ofNat s.length) then obnd (rowset_Compare (s.getD (IntKind.i64.wrap (i - (1 : Int))).toNat default) (s.getD i.toNat default)) (fun r1 => bif decide (r1 ≥ (0 : Int)) then K .ret [.lit (.bool false)] [] else H [.sl 23 l, .own 356, .lit (.int .i64 (IntKind.i64.wrap (i + (1 : Int))))] [.arr 23 s false]) else none else none else K (.exit 0) [.sl 23 l, .own 356] [.arr 23 s false] := by kernel_rfl
theorem law02_RowsetOrder_loop10 (R : Type) (K : Ex → List (AV ty) → List (Blk ty) → Option R) : ∀ (n : Nat) (l : List RowID) (i : Int) (s : List RowID), loopI law02_RowsetOrder_cx (lp (body Tryd.f3) 0) K n [.sl 23 l, .own 356, .lit (.int .i64 i)] [.arr 23 s false] = out (fun r => treeK K (law02_RowsetOrder_tr10 r)) (law02_RowsetOrder_L10 n l i s)
  | 0, _, _, _ => rfl
  | n + 1, l, i, s => by
    have ih := law02_RowsetOrder_loop10 R K n
    rw [law02_RowsetOrder_L10]
    exact (law02_RowsetOrder_round10 (loopI law02_RowsetOrder_cx (lp (body Tryd.f3) 0) K n) K l i s).trans (out_ite (out_ite (out_ite (out_ite (out_ite (rfl) (ih l (IntKind.i64.wrap (i + (1 : Int))) s)) (rfl)) (rfl)) (rfl)) (rfl))
theorem law02_RowsetOrder_to10 : LoopOK law02_RowsetOrder_cx (lp (body Tryd.f3) 0) := loopOK_of (id := 10) (sp := law02_RowsetOrder_sp10) (by kernel_rfl) (by kernel_rfl) (loopTo_of (V := law02_RowsetOrder_V10) (B := law02_RowsetOrder_B10) (L := fun n x y => law02_RowsetOrder_L10 n x.1 x.2.2.1 y.1) (tr := law02_RowsetOrder_tr10) (m := fun x y => x.1.length + Int.toNat x.2.2.1 + y.1.length + 1) fun R K n x y => law02_RowsetOrder_loop10 R K n x.1 x.2.2.1 y.1)
noncomputable def law02_RowsetOrder (a : RowID) (b : RowID) (c : RowID) (l : List RowID) : Bool × Bool := bnd (rowset_Compare a b) (fun r17 => bnd (rowset_Compare b c) (fun r16 => bnd (rowset_Compare a c) (fun r15 => bnd (rowset_Compare b a) (fun r14 => bif r14 != IntKind.i64.wrap ((0 : Int) - r17) then (true, false) else bif !(r17 == (0 : Int)) == (a.Table == b.Table && (a.Seq == b.Seq && true)) then (true, false) else bif decide (r17 < (-1 : Int)) then (true, false) else bif decide (r17 > (1 : Int)) then (true, false) else bif decide (r17 ≤ (0 : Int)) then bif decide (r16 ≤ (0 : Int)) then bif decide (r15 > (0 : Int)) then (true, false) else bif decide (Int.ofNat l.length > (20 : Int)) then (true, true) else bnd (rowset_Normalize l) (fun r5 => bnd (law02_RowsetOrder_L10 (l.length + Int.toNat (1 : Int) + r5.length + (1 : Nat)) l (1 : Int) r5) (fun r4 => bif isL r4 then (true, getL r4) else bnd (rowset_Subset (getR r4).fst (getR r4).snd) (fun r3 => bif r3 then bnd (rowset_Subset (getR r4).snd (getR r4).fst) (fun r2 => (true, r2)) (false, default) else (true, false)) (false, default)) (false, default)) (false, default) else bif decide (Int.ofNat l.length > (20 : Int)) then (true, true) else bnd (rowset_Normalize l) (fun r9 => bnd (law02_RowsetOrder_L10 (l.length + Int.toNat (1 : Int) + r9.length + (1 : Nat)) l (1 : Int) r9) (fun r8 => bif isL r8 then (true, getL r8) else bnd (rowset_Subset (getR r8).fst (getR r8).snd) (fun r7 => bif r7 then bnd (rowset_Subset (getR r8).snd (getR r8).fst) (fun r6 => (true, r6)) (false, default) else (true, false)) (false, default)) (false, default)) (false, default) else bif decide (Int.ofNat l.length > (20 : Int)) then (true, true) else bnd (rowset_Normalize l) (fun r13 => bnd (law02_RowsetOrder_L10 (l.length + Int.toNat (1 : Int) + r13.length + (1 : Nat)) l (1 : Int) r13) (fun r12 => bif isL r12 then (true, getL r12) else bnd (rowset_Subset (getR r12).fst (getR r12).snd) (fun r11 => bif r11 then bnd (rowset_Subset (getR r12).snd (getR r12).fst) (fun r10 => (true, r10)) (false, default) else (true, false)) (false, default)) (false, default)) (false, default)) (false, default)) (false, default)) (false, default)) (false, default)
noncomputable def law02_RowsetOrder_res (r : Bool) : ARes ty := ⟨[.pure (.lit (.bool r))], []⟩
theorem law02_RowsetOrder_run (a : RowID) (b : RowID) (c : RowID) (l : List RowID) : runFn law02_RowsetOrder_cx Tryd.f3 (body Tryd.f3) ⟨[.pure], []⟩ [.pure (.agg (base.enc 23 a)), .pure (.agg (base.enc 23 b)), .pure (.agg (base.enc 23 c)), .pure (.sl 23 l)] = out (fun r => some (law02_RowsetOrder_res r)) (law02_RowsetOrder a b c l) := by
  have h : runFn law02_RowsetOrder_cx Tryd.f3 (body Tryd.f3) ⟨[.pure], []⟩ [.pure (.agg (base.enc 23 a)), .pure (.agg (base.enc 23 b)), .pure (.agg (base.enc 23 c)), .pure (.sl 23 l)] = obnd (rowset_Compare a b) (fun r33 => obnd (rowset_Compare b c) (fun r32 => obnd (rowset_Compare a c) (fun r31 => obnd (rowset_Compare b a) (fun r30 => bif r30 != IntKind.i64.wrap ((0 : Int) - r33) then some ⟨[.pure (.lit (.bool false))], []⟩ else bif !(r33 == (0 : Int)) == (a.Table == b.Table && (a.Seq == b.Seq && true)) then some ⟨[.pure (.lit (.bool false))], []⟩ else bif decide (r33 < (-1 : Int)) then some ⟨[.pure (.lit (.bool false))], []⟩ else bif decide (r33 > (1 : Int)) then some ⟨[.pure (.lit (.bool false))], []⟩ else bif decide (r33 ≤ (0 : Int)) then bif decide (r32 ≤ (0 : Int)) then bif decide (r31 > (0 : Int)) then some ⟨[.pure (.lit (.bool false))], []⟩ else bif decide (Int.ofNat l.length > (20 : Int)) then some ⟨[.pure (.lit (.bool true))], []⟩ else obnd (rowset_Normalize l) (fun r21 => obnd (law02_RowsetOrder_L10 (l.length + Int.toNat (1 : Int) + r21.length + (1 : Nat)) l (1 : Int) r21) (fun r20 => bif isL r20 then some ⟨[.pure (.lit (.bool (getL r20)))], []⟩ else obnd (rowset_Subset (getR r20).fst (getR r20).snd) (fun r19 => bif r19 then obnd (rowset_Subset (getR r20).snd (getR r20).fst) (fun r18 => some ⟨[.pure (.lit (.bool (r18)))], []⟩) else some ⟨[.pure (.lit (.bool false))], []⟩))) else bif decide (Int.ofNat l.length > (20 : Int)) then some ⟨[.pure (.lit (.bool true))], []⟩ else obnd (rowset_Normalize l) (fun r25 => obnd (law02_RowsetOrder_L10 (l.length + Int.toNat (1 : Int) + r25.length + (1 : Nat)) l (1 : Int) r25) (fun r24 => bif isL r24 then some ⟨[.pure (.lit (.bool (getL r24)))], []⟩ else obnd (rowset_Subset (getR r24).fst (getR r24).snd) (fun r23 => bif r23 then obnd (rowset_Subset (getR r24).snd (getR r24).fst) (fun r22 => some ⟨[.pure (.lit (.bool (r22)))], []⟩) else some ⟨[.pure (.lit (.bool false))], []⟩))) else bif decide (Int.ofNat l.length > (20 : Int)) then some ⟨[.pure (.lit (.bool true))], []⟩ else obnd (rowset_Normalize l) (fun r29 => obnd (law02_RowsetOrder_L10 (l.length + Int.toNat (1 : Int) + r29.length + (1 : Nat)) l (1 : Int) r29) (fun r28 => bif isL r28 then some ⟨[.pure (.lit (.bool (getL r28)))], []⟩ else obnd (rowset_Subset (getR r28).fst (getR r28).snd) (fun r27 => bif r27 then obnd (rowset_Subset (getR r28).snd (getR r28).fst) (fun r26 => some ⟨[.pure (.lit (.bool (r26)))], []⟩) else some ⟨[.pure (.lit (.bool false))], []⟩))))))) := by kernel_rfl
  rw [law02_RowsetOrder]
  exact h.trans (out_ite (out_ite (out_ite (out_ite (out_ite (rfl) (out_ite (rfl) (out_ite (rfl) (out_ite (rfl) (out_ite (out_ite (out_ite (rfl) (out_ite (rfl) (out_ite (out_ite (out_ite (rfl) (out_ite (out_ite (out_ite (rfl) (rfl)) (rfl)) (rfl))) (rfl)) (rfl)))) (out_ite (rfl) (out_ite (out_ite (out_ite (rfl) (out_ite (out_ite (out_ite (rfl) (rfl)) (rfl)) (rfl))) (rfl)) (rfl)))) (out_ite (rfl) (out_ite (out_ite (out_ite (rfl) (out_ite (out_ite (out_ite (rfl) (rfl)) (rfl)) (rfl))) (rfl)) (rfl)))))))) (rfl)) (rfl)) (rfl)) (rfl))
noncomputable def law02_RowsetOrder_A : AL base0 (RowID × RowID × RowID × List RowID × Unit) := aCons (aPure (vAgg 23)) (aCons (aPure (vAgg 23)) (aCons (aPure (vAgg 23)) (aCons (aPure (vSl 23)) aNil)))
noncomputable def law02_RowsetOrder_spec : Ab.Spec ty := mkSpec law02_RowsetOrder_A fun x => ((law02_RowsetOrder x.1 x.2.1 x.2.2.1 x.2.2.2.1).1, law02_RowsetOrder_res (law02_RowsetOrder x.1 x.2.1 x.2.2.1 x.2.2.2.1).2)
theorem law02_RowsetOrder_sound : Sound Tryd.prog base0 3 law02_RowsetOrder_spec :=
  sound_of_run (cx' := law02_RowsetOrder_cx) draws base0_ok ⟨⟨rfl, rfl, rfl, rfl, rfl, rfl⟩, rfl⟩ (spec_of [(8, law02_awake_spec), (9, rowset_Compare_spec), (10, rowset_Normalize_spec), (11, rowset_Subset_spec)] ⟨(law02_awake_sound), (rowset_Compare_sound.nodr), (rowset_Normalize_sound.nodr), (rowset_Subset_sound.nodr), trivial⟩) Tryd.call3 Tryd.func3 (c := body Tryd.f3) (by kernel_rfl) (loopsOK_of (l := [lp (body Tryd.f3) 0]) (by kernel_rfl) ⟨law02_RowsetOrder_to10, trivial⟩) (sg := ⟨[.pure], []⟩) (A := law02_RowsetOrder_A) (res := law02_RowsetOrder_res) (F := fun x => law02_RowsetOrder x.1 x.2.1 x.2.2.1 x.2.2.2.1) (fun x => law02_RowsetOrder_run x.1 x.2.1 x.2.2.1 x.2.2.2.1) (fun _ => by kernel_rfl) (by kernel_rfl)
end Go.Proofs.YteopikhooiallaaDoor
/- Functions of the program as plain functions, with their contracts. Printed by program. -/
set_option autoImplicit false
set_option linter.unusedVariables false
set_option linter.unusedSimpArgs false
namespace Go.Proofs.YteopikhooiallaaDoor
open Go Go.Ab
/-! ### lineage/lineagelaw02.RowsetAlgebra -/
noncomputable def law02_RowsetAlgebra_cx : Cx ty := { base0 with nt := 100, spec := fun g => List.lookup g [(8, law02_awake_spec), (10, rowset_Normalize_spec), (11, rowset_Subset_spec), (15, ref02_Same_spec), (17, rowset_Union_spec), (19, rowset_Minus_spec)], io := fun g => (List.lookup g []).getD [], head := fun i => (List.lookup i []).getD [], out := outOf [], loops := fun i => List.lookup i [] }
noncomputable def law02_RowsetAlgebra (a : List RowID) (b : List RowID) (c : List RowID) : Bool × Bool := bif decide (Int.ofNat a.length > (20 : Int)) then (true, true) else bif decide (Int.ofNat b.length > (20 : Int)) then (true, true) else bif decide (Int.ofNat c.length > (20 : Int)) then (true, true) else bnd (rowset_Union a b) (fun r20 => bnd (rowset_Union b a) (fun r19 => bnd (ref02_Same r20 r19) (fun r18 => bif !r18 then (true, false) else bnd (rowset_Union r20 c) (fun r17 => bnd (rowset_Union b c) (fun r16 => bnd (rowset_Union a r16) (fun r15 => bnd (ref02_Same r17 r15) (fun r14 => bif !r14 then (true, false) else bnd (rowset_Union a a) (fun r13 => bnd (rowset_Normalize a) (fun r12 => bnd (ref02_Same r13 r12) (fun r11 => bif !r11 then (true, false) else bnd (rowset_Minus a b) (fun r10 => bnd (rowset_Minus a r10) (fun r9 => bnd (rowset_Union r9 r10) (fun r8 => bnd (rowset_Normalize a) (fun r7 => bnd (ref02_Same r8 r7) (fun r6 => bif r6 then bnd (rowset_Minus r9 b) (fun r5 => bif Int.ofNat r5.length == (0 : Int) then bnd (rowset_Union r10 b) (fun r4 => bnd (ref02_Same r4 r20) (fun r3 => bif r3 then bnd (rowset_Subset a b) (fun r2 => bif r2 == (Int.ofNat r10.length == (0 : Int)) then bnd (rowset_Subset a r20) (fun r1 => bif r1 then bnd (rowset_Subset b r20) (fun r0 => (true, r0)) (false, default) else (true, false)) (false, default) else (true, false)) (false, default) else (true, false)) (false, default)) (false, default) else (true, false)) (false, default) else (true, false)) (false, default)) (false, default)) (false, default)) (false, default)) (false, default)) (false, default)) (false, default)) (false, default)) (false, default)) (false, default)) (false, default)) (false, default)) (false, default)) (false, default)) (false, default)
noncomputable def law02_RowsetAlgebra_res (r : Bool) : ARes ty := ⟨[.pure (.lit (.bool r))], []⟩
theorem law02_RowsetAlgebra_run (a : List RowID) (b : List RowID) (c : List RowID) : runFn law02_RowsetAlgebra_cx Tryd.f6 (body Tryd.f6) ⟨[.pure], []⟩ [.pure (.sl 23 a), .pure (.sl 23 b), .pure (.sl 23 c)] = out (fun r => some (law02_RowsetAlgebra_res r)) (law02_RowsetAlgebra a b c) := by
  have h : runFn law02_RowsetAlgebra_cx Tryd.f6 (body Tryd.f6) ⟨[.pure], []⟩ [.pure (.sl 23 a), .pure (.sl 23 b), .pure (.sl 23 c)] = bif decide (Int.ofNat a.length > (20 : Int)) then some ⟨[.pure (.lit (.bool true))], []⟩ else bif decide (Int.ofNat b.length > (20 : Int)) then some ⟨[.pure (.lit (.bool true))], []⟩ else bif decide (Int.ofNat c.length > (20 : Int)) then some ⟨[.pure (.lit (.bool true))], []⟩ else obnd (rowset_Union a b) (fun r41 => obnd (rowset_Union b a) (fun r40 => obnd (ref02_Same r41 r40) (fun r39 => bif !r39 then some ⟨[.pure (.lit (.bool false))], []⟩ else obnd (rowset_Union r41 c) (fun r38 => obnd (rowset_Union b c) (fun r37 => obnd (rowset_Union a r37) (fun r36 => obnd (ref02_Same r38 r36) (fun r35 => bif !r35 then some ⟨[.pure (.lit (.bool false))], []⟩ else obnd (rowset_Union a a) (fun r34 => obnd (rowset_Normalize a) (fun r33 => obnd (ref02_Same r34 r33) (fun r32 => bif !r32 then some ⟨[.pure (.lit (.bool false))], []⟩ else obnd (rowset_Minus a b) (fun r31 => obnd (rowset_Minus a r31) (fun r30 => obnd (rowset_Union r30 r31) (fun r29 => obnd (rowset_Normalize a) (fun r28 => obnd (ref02_Same r29 r28) (fun r27 => bif r27 then obnd (rowset_Minus r30 b) (fun r26 => bif Int.ofNat r26.length == (0 : Int) then obnd (rowset_Union r31 b) (fun r25 => obnd (ref02_Same r25 r41) (fun r24 => bif r24 then obnd (rowset_Subset a b) (fun r23 => bif r23 == (Int.ofNat r31.length == (0 : Int)) then obnd (rowset_Subset a r41) (fun r22 => bif r22 then obnd (rowset_Subset b r41) (fun r21 => some ⟨[.pure (.lit (.bool (r21)))], []⟩) else some ⟨[.pure (.lit (.bool false))], []⟩) else some ⟨[.pure (.lit (.bool false))], []⟩) else some ⟨[.pure (.lit (.bool false))], []⟩)) else some ⟨[.pure (.lit (.bool false))], []⟩) else some ⟨[.pure (.lit (.bool false))], []⟩))))))))))))))) := by kernel_rfl
  rw [law02_RowsetAlgebra]
  exact h.trans (out_ite (rfl) (out_ite (rfl) (out_ite (rfl) (out_ite (out_ite (out_ite (out_ite (rfl) (out_ite (out_ite (out_ite (out_ite (out_ite (rfl) (out_ite (out_ite (out_ite (out_ite (rfl) (out_ite (out_ite (out_ite (out_ite (out_ite (out_ite (out_ite (out_ite (out_ite (out_ite (out_ite (out_ite (out_ite (out_ite (out_ite (out_ite (rfl) (rfl)) (rfl)) (rfl)) (rfl)) (rfl)) (rfl)) (rfl)) (rfl)) (rfl)) (rfl)) (rfl)) (rfl)) (rfl)) (rfl)) (rfl)) (rfl))) (rfl)) (rfl)) (rfl))) (rfl)) (rfl)) (rfl)) (rfl))) (rfl)) (rfl)) (rfl)))))
noncomputable def law02_RowsetAlgebra_A : AL base0 (List RowID × List RowID × List RowID × Unit) := aCons (aPure (vSl 23)) (aCons (aPure (vSl 23)) (aCons (aPure (vSl 23)) aNil))
noncomputable def law02_RowsetAlgebra_spec : Ab.Spec ty := mkSpec law02_RowsetAlgebra_A fun x => ((law02_RowsetAlgebra x.1 x.2.1 x.2.2.1).1, law02_RowsetAlgebra_res (law02_RowsetAlgebra x.1 x.2.1 x.2.2.1).2)
theorem law02_RowsetAlgebra_sound : Sound Tryd.prog base0 6 law02_RowsetAlgebra_spec :=
  sound_of_run (cx' := law02_RowsetAlgebra_cx) draws base0_ok ⟨⟨rfl, rfl, rfl, rfl, rfl, rfl⟩, rfl⟩ (spec_of [(8, law02_awake_spec), (10, rowset_Normalize_spec), (11, rowset_Subset_spec), (15, ref02_Same_spec), (17, rowset_Union_spec), (19, rowset_Minus_spec)] ⟨(law02_awake_sound), (rowset_Normalize_sound.nodr), (rowset_Subset_sound.nodr), (ref02_Same_sound.nodr), (rowset_Union_sound.nodr), (rowset_Minus_sound.nodr), trivial⟩) Tryd.call6 Tryd.func6 (c := body Tryd.f6) (by kernel_rfl) (loopsOK_of (l := []) (by kernel_rfl) trivial) (sg := ⟨[.pure], []⟩) (A := law02_RowsetAlgebra_A) (res := law02_RowsetAlgebra_res) (F := fun x => law02_RowsetAlgebra x.1 x.2.1 x.2.2.1) (fun x => law02_RowsetAlgebra_run x.1 x.2.1 x.2.2.1) (fun _ => by kernel_rfl) (by kernel_rfl)
end Go.Proofs.YteopikhooiallaaDoor
/- RowsetOrder, RowsetSets, RowsetAlgebra: the laws over the printed functions. -/
set_option autoImplicit false
set_option linter.unusedVariables false
set_option linter.unusedSimpArgs false
namespace Go.Proofs.YteopikhooiallaaDoor
open Go Go.Ab

theorem gt_num (n k : Nat) : decide (Int.ofNat n > (k : Int)) = decide (k < n) := by simp
theorem nR_len' (l : List RowID) : (nR l).length ≤ l.length := snorm_length cR_ord l
theorem nR_mem' {l : List RowID} {z : RowID} : z ∈ nR l ↔ z ∈ l := snorm_mem cR_ord l z
theorem nR_congr' {l l' : List RowID} (h : ∀ z, z ∈ l ↔ z ∈ l') : nR l = nR l' := snorm_congr cR_ord h

/-! ### RowsetOrder -/
theorem cR_neg (a b : RowID) : cR b a = - cR a b := by
  simp only [cR]
  repeat' split
  all_goals omega
theorem Order_loop (l s : List RowID) (hl : s.length ≤ 1000000) : ∀ (n i : Nat), s.length < i + n → 0 < i → i ≤ s.length → law02_RowsetOrder_L10 n l i s = (true, if chain cR (s.getD (i - 1) default) (s.drop i) then .inr (l, s) else .inl false)
  | 0, i, h, h0, h2 => by omega
  | n + 1, i, h, h0, h2 => by
    rw [law02_RowsetOrder_L10]
    by_cases hi : i < s.length
    · have hi1 : i - 1 < s.length := by omega
      rw [wrap_pred h0 (by omega)]
      simp only [Int.ofNat_eq_natCast, lt_nat, le0_nat, decide_true, decide_false, Bool.and_self, Bool.true_and, Bool.and_true, cond_true, cond_false, Int.toNat_natCast, eqR, eqR', Bool.not_true, Bool.not_false, bnd, hi, hi1, rowset_Compare_eq]
      rw [drop_lt hi, wrap_succ (by omega), Order_loop l s hl n (i + 1) (by omega) (by omega) (by omega)]
      simp only [Nat.add_sub_cancel]
      generalize s.getD i default = x
      generalize s.getD (i - 1) default = y
      by_cases hx : cR y x < 0
      · have h3 : ¬ cR y x ≥ 0 := by omega
        simp [chain, hx, h3]
      · have h3 : cR y x ≥ 0 := by omega
        simp [chain, hx, h3]
    · simp only [Int.ofNat_eq_natCast, lt_nat, le0_nat, decide_true, decide_false, Bool.and_self, Bool.true_and, Bool.and_true, cond_true, cond_false, Int.toNat_natCast, eqR, eqR', Bool.not_true, Bool.not_false, bnd, hi, drop_ge hi]; rfl
theorem order_plain (a b c : RowID) (l : List RowID) (wa : wf23 a) (wb : wf23 b) (wc : wf23 c) (wl : wf24 l) : law02_RowsetOrder a b c l = (true, true) := by
  unfold law02_RowsetOrder
  simp only [rowset_Compare_eq, bnd, cond_true]
  have e1 : (cR b a != IntKind.i64.wrap (0 - cR a b)) = false := by
    rcases cR_range a b with h | h | h <;> rw [cR_neg a b, h] <;> rfl
  have e2 : (!(cR a b == (0 : Int)) == (a.Table == b.Table && (a.Seq == b.Seq && true))) = false := by
    rw [eqR]
    by_cases h : a = b
    · subst h
      have := cR_ord.refl a
      simp [this]
    · have : cR a b ≠ 0 := fun e => h ((cR_ord.eq a b).1 e)
      simp [h, this]
  have e3 : decide (cR a b < -1) = false := by rcases cR_range a b with h | h | h <;> rw [h] <;> rfl
  have e4 : decide (cR a b > 1) = false := by rcases cR_range a b with h | h | h <;> rw [h] <;> rfl
  simp only [e1, e2, e3, e4, cond_false]
  have tail : ∀ (q : Bool), q = decide (Int.ofNat l.length > 20) → (bif q then ((true, true) : Bool × Bool) else bif (rowset_Normalize l).1 then bif (law02_RowsetOrder_L10 (l.length + Int.toNat 1 + (rowset_Normalize l).2.length + 1) l 1 (rowset_Normalize l).2).1 then
      bif isL (law02_RowsetOrder_L10 (l.length + Int.toNat 1 + (rowset_Normalize l).2.length + 1) l 1 (rowset_Normalize l).2).2 then (true, getL (law02_RowsetOrder_L10 (l.length + Int.toNat 1 + (rowset_Normalize l).2.length + 1) l 1 (rowset_Normalize l).2).2)
      else bif (rowset_Subset (getR (law02_RowsetOrder_L10 (l.length + Int.toNat 1 + (rowset_Normalize l).2.length + 1) l 1 (rowset_Normalize l).2).2).1 (getR (law02_RowsetOrder_L10 (l.length + Int.toNat 1 + (rowset_Normalize l).2.length + 1) l 1 (rowset_Normalize l).2).2).2).1 then
        bif (rowset_Subset (getR (law02_RowsetOrder_L10 (l.length + Int.toNat 1 + (rowset_Normalize l).2.length + 1) l 1 (rowset_Normalize l).2).2).1 (getR (law02_RowsetOrder_L10 (l.length + Int.toNat 1 + (rowset_Normalize l).2.length + 1) l 1 (rowset_Normalize l).2).2).2).2 then
          bif (rowset_Subset (getR (law02_RowsetOrder_L10 (l.length + Int.toNat 1 + (rowset_Normalize l).2.length + 1) l 1 (rowset_Normalize l).2).2).2 (getR (law02_RowsetOrder_L10 (l.length + Int.toNat 1 + (rowset_Normalize l).2.length + 1) l 1 (rowset_Normalize l).2).2).1).1 then
            (true, (rowset_Subset (getR (law02_RowsetOrder_L10 (l.length + Int.toNat 1 + (rowset_Normalize l).2.length + 1) l 1 (rowset_Normalize l).2).2).2 (getR (law02_RowsetOrder_L10 (l.length + Int.toNat 1 + (rowset_Normalize l).2.length + 1) l 1 (rowset_Normalize l).2).2).1).2) else (false, default)
        else (true, false) else (false, default) else (false, default) else (false, default)) = (true, true) := by
    intro q hq
    subst hq
    rw [show (20 : Int) = ((20 : Nat) : Int) from rfl, gt_num]
    by_cases hl : 20 < l.length
    · simp only [hl, decide_true, cond_true]
    · have h1 := nR_len' l
      have hL : law02_RowsetOrder_L10 (l.length + Int.toNat 1 + (nR l).length + 1) l 1 (nR l) = (true, .inr (l, nR l)) := by
        have hs := snorm_asc cR_ord l
        cases hn : nR l with
        | nil => rfl
        | cons x r =>
          rw [show (1 : Int) = ((1 : Nat) : Int) from rfl, Order_loop l (x :: r) (by rw [← hn]; omega) _ 1 (by simp; omega) (by omega) (by simp)]
          have hc : chain cR x r = true := (chain_iff cR_ord r x).2 (by rw [← hn]; exact hs)
          simp [hc]
      simp only [hl, decide_false, cond_false, rowset_Normalize_eq l (by omega), cond_true, hL, isL, getR, rowset_Subset_eq l (nR l) (by omega) (by omega), rowset_Subset_eq (nR l) l (by omega) (by omega)]
      have s1 : l.all (fun x => decide (x ∈ nR l)) = true := by rw [List.all_eq_true]; intro x hx; exact decide_eq_true (nR_mem'.2 hx)
      have s2 : (nR l).all (fun x => decide (x ∈ l)) = true := by rw [List.all_eq_true]; intro x hx; exact decide_eq_true (nR_mem'.1 hx)
      simp only [s1, s2, cond_true]
  by_cases hx : cR a b ≤ 0
  · by_cases hy : cR b c ≤ 0
    · have hz : ¬ cR a c > 0 := by
        intro hz
        have h1 : ¬ cR b a < 0 := by rw [cR_neg a b]; omega
        have h2 : ¬ cR c b < 0 := by rw [cR_neg b c]; omega
        have h3 := cR_ord.le_trans h1 h2
        rw [cR_neg a c] at h3
        omega
      simp only [hx, hy, hz, decide_true, decide_false, cond_true, cond_false]
      exact tail _ rfl
    · simp only [hx, hy, decide_true, decide_false, cond_true, cond_false]
      exact tail _ rfl
  · simp only [hx, decide_false, cond_false]
    exact tail _ rfl

/-! ### RowsetSets -/
theorem minus_eq (a b : List RowID) : (nR a).filter (fun x => !decide (x ∈ b)) = nR (a.filter fun x => !decide (x ∈ b)) :=
  snorm_of cR_ord ((snorm_asc cR_ord a).filter _) fun z => by rw [List.mem_filter, List.mem_filter, nR_mem']
theorem sets_plain (a b : List RowID) (wa : wf24 a) (wb : wf24 b) : law02_RowsetSets a b = (true, true) := by
  unfold law02_RowsetSets
  rw [show (30 : Int) = ((30 : Nat) : Int) from rfl, gt_num, gt_num]
  by_cases ha : 30 < a.length
  · simp only [ha, decide_true, cond_true]
  by_cases hb : 30 < b.length
  · simp only [ha, hb, decide_true, decide_false, cond_true, cond_false]
  have h1 := nR_len' a
  have h2 := nR_len' (a ++ b)
  have h3 := nR_len' (a.filter fun x => !decide (x ∈ b))
  have h4 : (a.filter fun x => !decide (x ∈ b)).length ≤ a.length := List.length_filter_le _ _
  rw [List.length_append] at h2
  simp only [ha, hb, decide_false, cond_false, rowset_Normalize_eq a (by omega), ref02_Normalize_eq a (by omega), rowset_Union_eq a b (by omega), ref02_Union_eq a b (by omega) (by omega), rowset_Minus_eq a b (by omega) (by omega),
    ref02_Minus_eq a b (by omega) (by omega), rowset_Subset_eq a b (by omega) (by omega), ref02_Subset_eq a b (by omega) (by omega), bnd, cond_true, ref02_Same_eq (nR a) _ (by omega), ref02_Same_eq (nR (a ++ b)) _ (by omega), minus_eq, ref02_Same_eq (nR (a.filter fun x => !decide (x ∈ b))) _ (by omega), decide_true, beq_self_eq_true]

/-! ### RowsetAlgebra -/
theorem algebra_plain (a b c : List RowID) (wa : wf24 a) (wb : wf24 b) (wc : wf24 c) : law02_RowsetAlgebra a b c = (true, true) := by
  unfold law02_RowsetAlgebra
  rw [show (20 : Int) = ((20 : Nat) : Int) from rfl, gt_num, gt_num, gt_num]
  by_cases ha : 20 < a.length
  · simp only [ha, decide_true, cond_true]
  by_cases hb : 20 < b.length
  · simp only [ha, hb, decide_true, decide_false, cond_true, cond_false]
  by_cases hc : 20 < c.length
  · simp only [ha, hb, hc, decide_true, decide_false, cond_true, cond_false]
  simp only [ha, hb, hc, decide_false, cond_false]
  have n1 := nR_len' a
  have n2 := nR_len' (a ++ b)
  have n3 := nR_len' (b ++ c)
  rw [List.length_append] at n2 n3
  have n4 := nR_len' (nR (a ++ b) ++ c)
  rw [List.length_append] at n4
  have n5 := nR_len' (a ++ a)
  rw [List.length_append] at n5
  rw [rowset_Union_eq a b (by omega), rowset_Union_eq b a (by omega)]
  simp only [bnd, cond_true]
  rw [ref02_Same_eq _ _ (by omega), nR_congr' (l := b ++ a) (l' := a ++ b) fun z => by simp [or_comm]]
  simp only [decide_true, Bool.not_true, cond_true, cond_false]
  rw [rowset_Union_eq (nR (a ++ b)) c (by omega), rowset_Union_eq b c (by omega)]
  simp only [cond_true]
  rw [rowset_Union_eq a (nR (b ++ c)) (by omega)]
  simp only [cond_true]
  rw [ref02_Same_eq _ _ (by omega), nR_congr' (l := nR (a ++ b) ++ c) (l' := a ++ nR (b ++ c)) fun z => by simp [nR_mem', or_assoc]]
  simp only [decide_true, Bool.not_true, cond_true, cond_false]
  rw [rowset_Union_eq a a (by omega), rowset_Normalize_eq a (by omega)]
  simp only [cond_true]
  rw [ref02_Same_eq _ _ (by omega), nR_congr' (l := a ++ a) (l' := a) fun z => by simp]
  simp only [decide_true, Bool.not_true, cond_true, cond_false]
  rw [rowset_Minus_eq a b (by omega) (by omega)]
  simp only [cond_true]
  generalize ho : (nR a).filter (fun x => !decide (x ∈ b)) = o
  have mo : ∀ z, z ∈ o ↔ z ∈ a ∧ z ∉ b := fun z => by rw [← ho]; simp [nR_mem']
  have lo : o.length ≤ 20 := by
    have : o.length ≤ (nR a).length := by rw [← ho]; exact List.length_filter_le _ _
    omega
  rw [rowset_Minus_eq a o (by omega) (by omega)]
  simp only [cond_true]
  generalize hin : (nR a).filter (fun x => !decide (x ∈ o)) = i
  have mi : ∀ z, z ∈ i ↔ z ∈ a ∧ z ∈ b := fun z => by
    rw [← hin]
    simp only [List.mem_filter, nR_mem', mo, Bool.not_eq_true', decide_eq_false_iff_not]
    constructor
    · rintro ⟨h1, h2⟩; exact ⟨h1, Classical.byContradiction fun h => h2 ⟨h1, h⟩⟩
    · rintro ⟨h1, h2⟩; exact ⟨h1, fun h => h.2 h2⟩
  have li : i.length ≤ 20 := by
    have : i.length ≤ (nR a).length := by rw [← hin]; exact List.length_filter_le _ _
    omega
  have n6 := nR_len' (i ++ o)
  have n7 := nR_len' (o ++ b)
  rw [List.length_append] at n6 n7
  rw [rowset_Union_eq i o (by omega)]
  simp only [cond_true]
  rw [ref02_Same_eq _ _ (by omega), nR_congr' (l := i ++ o) (l' := a) fun z => by
    rw [List.mem_append, mi, mo]
    by_cases h : z ∈ b <;> simp [h]]
  simp only [decide_true, cond_true]
  rw [rowset_Minus_eq i b (by omega) (by omega)]
  have e1 : (nR i).filter (fun x => !decide (x ∈ b)) = [] := by
    rw [List.filter_eq_nil_iff]
    intro x hx
    have := (mi x).1 (nR_mem'.1 hx)
    simp [this.2]
  rw [e1]
  simp only [cond_true, List.length_nil]
  rw [show (Int.ofNat 0 == (0 : Int)) = true from rfl]
  simp only [cond_true]
  rw [rowset_Union_eq o b (by omega)]
  simp only [cond_true]
  rw [ref02_Same_eq _ _ (by omega), nR_congr' (l := o ++ b) (l' := a ++ b) fun z => by
    rw [List.mem_append, List.mem_append, mo]
    by_cases h : z ∈ b <;> simp [h]]
  simp only [decide_true, cond_true]
  rw [rowset_Subset_eq a b (by omega) (by omega)]
  have e2 : (a.all (fun x => decide (x ∈ b)) == (Int.ofNat o.length == (0 : Int))) = true := by
    have : (Int.ofNat o.length == (0 : Int)) = decide (o.length = 0) := beq_nat _ 0
    rw [this, beq_iff_eq, Bool.eq_iff_iff, decide_eq_true_eq, List.length_eq_zero_iff, List.all_eq_true]
    constructor
    · intro h
      refine List.eq_nil_iff_forall_not_mem.2 fun z hz => ?_
      have h1 := (mo z).1 hz
      exact h1.2 (of_decide_eq_true (h z h1.1))
    · intro h x hx
      refine decide_eq_true (Classical.byContradiction fun hb => ?_)
      have := (mo x).2 ⟨hx, hb⟩
      rw [h] at this; cases this
  simp only [cond_true]
  rw [e2]
  simp only [cond_true]
  rw [rowset_Subset_eq a _ (by omega) (by omega), rowset_Subset_eq b _ (by omega) (by omega)]
  have s1 : a.all (fun x => decide (x ∈ nR (a ++ b))) = true := by rw [List.all_eq_true]; intro x hx; exact decide_eq_true (nR_mem'.2 (by simp [hx]))
  have s2 : b.all (fun x => decide (x ∈ nR (a ++ b))) = true := by rw [List.all_eq_true]; intro x hx; exact decide_eq_true (nR_mem'.2 (by simp [hx]))
  simp only [s1, s2, cond_true]
end Go.Proofs.YteopikhooiallaaDoor
