/- Texts of this claim, joined (the program, its functions in plain words, and what they compute). -/
import Derived.Test.YtnolcogncjijpaaGreatDoorGC3
import Derived.Test.YtnolcogncjijpaaGreatDoorGC2
import Derived.Test.YtnolcogncjijpaaGreatDoorGC1
set_option autoImplicit false
set_option linter.unusedVariables false
set_option linter.unusedSectionVars false
set_option linter.unusedSimpArgs false
set_option maxRecDepth 1000000
set_option maxHeartbeats 0
/- Small tests of annotations: searches, limits, kinds. -/
noncomputable section
namespace Go.Proofs.YtnolcogncjijpaaGreatDoor
open Go Go.Ab

def allN (c : Nat → Bool) : Nat → Nat → Bool
  | 0, _ => true
  | n + 1, i => c i && allN c n (i + 1)
theorem zbrx {c c' : Nat → Bool} : ∀ n i, (∀ k, i ≤ k → k < i + n → c k = c' k) → allN c n i = allN c' n i
  | 0, _, _ => rfl
  | n + 1, i, h => by
    simp only [allN]; rw [h i (by omega) (by omega), zbrx n (i + 1) fun k h1 h2 => h k (by omega) (by omega)]
theorem ztj {c : Nat → Bool} : ∀ {n i}, allN c n i = true ↔ ∀ k, i ≤ k → k < i + n → c k = true
  | 0, i => ⟨fun _ k h1 h2 => by omega, fun _ => rfl⟩
  | n + 1, i => by
    simp only [allN, Bool.and_eq_true, ztj (n := n)]
    constructor
    · rintro ⟨h1, h2⟩ k h3 h4
      by_cases e : k = i
      · rw [e]; exact h1
      · exact h2 k (by omega) (by omega)
    · intro h
      exact ⟨h i (by omega) (by omega), fun k h1 h2 => h k (by omega) (by omega)⟩
theorem zbqx (c c' : Nat → Bool) : ∀ n i, allN (fun k => c k && c' k) n i = (allN c n i && allN c' n i)
  | 0, _ => rfl
  | n + 1, i => by
    simp only [allN, zbqx c c' n (i + 1)]
    cases c i <;> cases c' i <;> simp
theorem zbqw {τ : Type} [Inhabited τ] (p : τ → Bool) (l : List τ) : ∀ n i, i + n = l.length → allN (fun k => p (l.getD k default)) n i = (l.drop i).all p
  | 0, i, h => by rw [drop_ge (by omega)]; rfl
  | n + 1, i, h => by
    rw [drop_lt (by omega), List.all_cons]
    simp only [allN, zbqw p l n (i + 1) (by omega)]
theorem zzg {τ : Type} [Inhabited τ] (p : τ → Bool) (l : List τ) : allN (fun k => p (l.getD k default)) l.length 0 = l.all p := by
  rw [zbqw p l _ _ (by omega), List.drop_zero]
section
variable {α β ρ : Type}
theorem zbqo {W : α → β → Wy α β ρ} {z : ρ} (N : Nat) (ex : Nat → α) (ey : Nat → β) (c : Nat → Bool) (no yes : ρ)
    (h : ∀ i, i < N → ∀ (H : α → β → Bool × ρ) K D, (W (ex i) (ey i)).ev H K D = bif c i then H (ex (i + 1)) (ey (i + 1)) else K no)
    (he : ∀ (H : α → β → Bool × ρ) K D, (W (ex N) (ey N)).ev H K D = K yes) :
    ∀ n i, N < i + n → i ≤ N → iterW W z n (ex i) (ey i) = (true, bif allN c (N - i) i then yes else no)
  | 0, i, h1, h2 => by omega
  | n + 1, i, h1, h2 => by
    show (W (ex i) (ey i)).ev (iterW W z n) (fun r => (true, r)) (false, z) = _
    by_cases hi : i < N
    · rw [h i hi, show N - i = (N - (i + 1)) + 1 by omega]
      simp only [allN]
      cases c i with
      | false => rfl
      | true => rw [cond_true, zbqo N ex ey c no yes h he n (i + 1) (by omega) (by omega)]; rfl
    · have : i = N := by omega
      subst this
      rw [he, Nat.sub_self]; rfl
theorem zg0 {W : α → β → Wy α β ρ} {z : ρ} (N : Nat) (ex : Nat → α) (ey : Nat → β) (c : Nat → Bool) (no yes : ρ)
    (h : ∀ i, i < N → ∀ (H : α → β → Bool × ρ) K D, (W (ex i) (ey i)).ev H K D = bif c i then H (ex (i + 1)) (ey (i + 1)) else K no)
    (he : ∀ (H : α → β → Bool × ρ) K D, (W (ex N) (ey N)).ev H K D = K yes) (n : Nat) (hn : N < n) : iterW W z n (ex 0) (ey 0) = (true, bif allN c N 0 then yes else no) := by
  have := zbqo (z := z) N ex ey c no yes h he n 0 (by omega) (by omega)
  simpa using this
end

def ixf {α : Type} (p : α → Bool) : List α → Nat → Int
  | [], _ => -1
  | x :: r, i => bif p x then (i : Int) else ixf p r (i + 1)
theorem ixf_any {α : Type} (p : α → Bool) : ∀ (l : List α) (i : Nat), decide (ixf p l i ≥ (0 : Int)) = l.any p
  | [], i => by simp [ixf]
  | x :: r, i => by
    rw [List.any_cons]
    cases h : p x with
    | true => simp [ixf, h]
    | false => simpa [ixf, h] using ixf_any p r (i + 1)
section
variable {α γ : Type} [Inhabited α]
def IG_W2 (p : γ → α → Bool × Bool) (s : List α) (g : γ) (t7 : Int) (t8 : Int) : Wy (List α × γ × Int × Int × Unit) (Unit) (Int ⊕ Unit) := .i (decide (t8 < t7)) (.i (decide ((0 : Int) ≤ t8) && decide (t8 < Int.ofNat s.length)) (.bn (p g (s.getD t8.toNat default)) fun r0 => .i (r0) (.k (.inl t8)) (.h (s, g, t7, (IntKind.i64.wrap (t8 + (1 : Int))), ()) ())) .d) (.k (.inr ()))
def IG_w2 (p : γ → α → Bool × Bool) (x : List α × γ × Int × Int × Unit) (y : Unit) : Wy (List α × γ × Int × Int × Unit) (Unit) (Int ⊕ Unit) := IG_W2 p x.1 x.2.1 x.2.2.1 x.2.2.2.1
def IG_L2 (p : γ → α → Bool × Bool) (n : Nat) (s : List α) (g : γ) (t7 : Int) (t8 : Int) : Bool × (Int ⊕ Unit) := iterW (IG_w2 p) (.inl default) n (s, g, t7, t8, ()) ()
def IG (p : γ → α → Bool × Bool) (n : Nat) (g : γ) (s : List α) : Bool × Int := (.bn (IG_L2 p n s g (Int.ofNat s.length) (0 : Int)) fun r2 => .i (isL r2) (.k (getL r2)) (.k (-1 : Int)) : Wy0 Int).fin default
def IH_W2 (p : γ → α → Bool × Bool) (s : List α) (g : γ) (t7 : Int) (t8 : Int) : Wy (List α × γ × Int × Int × Unit) (Unit) (Int ⊕ Unit) := .i (decide (t8 < t7)) (.i (decide ((0 : Int) ≤ t8) && decide (t8 < Int.ofNat s.length)) (.i ((p g (s.getD t8.toNat default)).snd) (.k (.inl t8)) (.h (s, g, t7, (IntKind.i64.wrap (t8 + (1 : Int))), ()) ())) .d) (.k (.inr ()))
def IH_w2 (p : γ → α → Bool × Bool) (x : List α × γ × Int × Int × Unit) (y : Unit) : Wy (List α × γ × Int × Int × Unit) (Unit) (Int ⊕ Unit) := IH_W2 p x.1 x.2.1 x.2.2.1 x.2.2.2.1
def IH_L2 (p : γ → α → Bool × Bool) (n : Nat) (s : List α) (g : γ) (t7 : Int) (t8 : Int) : Bool × (Int ⊕ Unit) := iterW (IH_w2 p) (.inl default) n (s, g, t7, t8, ()) ()
def IH (p : γ → α → Bool × Bool) (n : Nat) (g : γ) (s : List α) : Bool × Int := (.bn (IH_L2 p n s g (Int.ofNat s.length) (0 : Int)) fun r2 => .i (isL r2) (.k (getL r2)) (.k (-1 : Int)) : Wy0 Int).fin default
theorem IG_loop (p : γ → α → Bool × Bool) (P : α → Bool) (g : γ) (s : List α) (hs : s.length ≤ 1000000000) (hp : ∀ x ∈ s, p g x = (true, P x)) : ∀ (n i : Nat), s.length < i + n → i ≤ s.length →
    ∃ r, IG_L2 p n s g s.length i = (true, r) ∧ ((r = .inl (ixf P (s.drop i) i)) ∨ (r = .inr () ∧ ixf P (s.drop i) i = -1))
  | 0, i, h, h2 => by omega
  | n + 1, i, h, h2 => by
    show ∃ r, (IG_W2 p s g s.length i).ev (fun x y => IG_L2 p n x.1 x.2.1 x.2.2.1 x.2.2.2.1) (fun r => (true, r)) (false, .inl default) = (true, r) ∧ _
    unfold IG_W2
    by_cases hi : i < s.length
    · simp only [Wy.ev_i, Wy.ev_k, Wy.ev_h, Wy.ev_bn, Wy.ev_d, tT, hi, hp _ (getD_mem hi)]
      rw [drop_lt hi, wrap_succ (by omega)]
      simp only [ixf]
      cases P (s.getD i default) with
      | true => exact ⟨_, rfl, .inl rfl⟩
      | false => exact IG_loop p P g s hs hp n (i + 1) (by omega) (by omega)
    · simp only [Wy.ev_i, Wy.ev_k, Wy.ev_h, Wy.ev_bn, Wy.ev_d, tT, hi, drop_ge hi]
      exact ⟨_, rfl, .inr ⟨rfl, rfl⟩⟩
theorem IG_eq (p : γ → α → Bool × Bool) (P : α → Bool) (n : Nat) (g : γ) (s : List α) (hs : s.length ≤ 1000000000) (hp : ∀ x ∈ s, p g x = (true, P x)) (hn : s.length < n) : IG p n g s = (true, ixf P s 0) := by
  unfold IG
  obtain ⟨r, h1, h2⟩ := IG_loop p P g s hs hp n 0 (by omega) (by omega)
  rw [show ((0 : Nat) : Int) = (0 : Int) from rfl] at h1
  rw [Wy.fin_bn, show Int.ofNat s.length = (s.length : Int) from rfl, h1]
  rw [List.drop_zero] at h2
  rcases h2 with rfl | ⟨rfl, h2⟩
  · rfl
  · rw [h2]; rfl
theorem IH_loop (p : γ → α → Bool × Bool) (P : α → Bool) (g : γ) (s : List α) (hs : s.length ≤ 1000000000) (hp : ∀ x ∈ s, p g x = (true, P x)) : ∀ (n i : Nat), s.length < i + n → i ≤ s.length →
    ∃ r, IH_L2 p n s g s.length i = (true, r) ∧ ((r = .inl (ixf P (s.drop i) i)) ∨ (r = .inr () ∧ ixf P (s.drop i) i = -1))
  | 0, i, h, h2 => by omega
  | n + 1, i, h, h2 => by
    show ∃ r, (IH_W2 p s g s.length i).ev (fun x y => IH_L2 p n x.1 x.2.1 x.2.2.1 x.2.2.2.1) (fun r => (true, r)) (false, .inl default) = (true, r) ∧ _
    unfold IH_W2
    by_cases hi : i < s.length
    · simp only [Wy.ev_i, Wy.ev_k, Wy.ev_h, Wy.ev_bn, Wy.ev_d, tT, hi, hp _ (getD_mem hi)]
      rw [drop_lt hi, wrap_succ (by omega)]
      simp only [ixf]
      cases P (s.getD i default) with
      | true => exact ⟨_, rfl, .inl rfl⟩
      | false => exact IH_loop p P g s hs hp n (i + 1) (by omega) (by omega)
    · simp only [Wy.ev_i, Wy.ev_k, Wy.ev_h, Wy.ev_bn, Wy.ev_d, tT, hi, drop_ge hi]
      exact ⟨_, rfl, .inr ⟨rfl, rfl⟩⟩
theorem IH_eq (p : γ → α → Bool × Bool) (P : α → Bool) (n : Nat) (g : γ) (s : List α) (hs : s.length ≤ 1000000000) (hp : ∀ x ∈ s, p g x = (true, P x)) (hn : s.length < n) : IH p n g s = (true, ixf P s 0) := by
  unfold IH
  obtain ⟨r, h1, h2⟩ := IH_loop p P g s hs hp n 0 (by omega) (by omega)
  rw [show ((0 : Nat) : Int) = (0 : Int) from rfl] at h1
  rw [Wy.fin_bn, show Int.ofNat s.length = (s.length : Int) from rfl, h1]
  rw [List.drop_zero] at h2
  rcases h2 with rfl | ⟨rfl, h2⟩
  · rfl
  · rw [h2]; rfl
theorem ztg {α : Type} {s : List α} {P : α → Bool} {q : Bool × Int} (h : q = (true, ixf P s 0)) : ((.bn q fun r0 => .k (decide (r0 ≥ (0 : Int))) : Wy0 Bool).fin default) = (true, s.any P) := by
  rw [h, Wy.fin_bn, cond_true, Wy.fin_k, ixf_any]
end

theorem beqd (a b : Int) : (a == b) = decide (a = b) := by by_cases h : a = b <;> simp [h]
theorem beqn (a b : Nat) : (a == b) = decide (a = b) := by by_cases h : a = b <;> simp [h]
theorem i0 (l : Nat) : ((l : Int) == 0) = (l == 0) := by
  rw [beqd, beqn]; congr 1; simp
def hasC (a : List Term) : Bool := a.any fun t => t.Factors.length == 0
theorem zbpa (a : List Term) (h : a.length ≤ 1000000000) : zfa a = (true, hasC a) := by
  unfold zfa zrn zdf zep
  have : zdo a = IH (fun (_ : Unit) x => zhj x) (a.length + (Int.ofNat a.length).toNat + Int.toNat (0 : Int) + (1 : Nat)) () a := rfl
  rw [ztg (P := fun t : Term => t.Factors.length == 0) (this.trans (IH_eq _ _ _ _ _ h (fun x _ => by
    unfold zhj zo7
    rw [Wy.fin_k]
    congr 1
    exact i0 x.Factors.length) (by omega)))]
  rfl
theorem zbmr (a : List Term) (h : a.length ≤ 1000000000) : zny a = (true, hasC a) := by
  unfold zny z23 zbb9
  have := zg0 (W := zt8) (z := .inl default) a.length (fun i => (a, (i : Int), ())) (fun _ => ()) (fun i => !((a.getD i default).Factors.length == 0)) (.inl true) (.inr ())
    (fun i hi H K D => by
      show (zp4 a i).ev H K D = _
      unfold zp4
      simp only [Wy.ev_i, Wy.ev_k, Wy.ev_h, Wy.ev_bn, Wy.ev_d, tT, hi, i0]
      rw [wrap_succ (by omega)]
      cases (a.getD i default).Factors.length == 0 <;> rfl)
    (fun H K D => by
      show (zp4 a a.length).ev H K D = _
      unfold zp4
      simp only [Wy.ev_i, Wy.ev_k, tT, Nat.lt_irrefl]) (a.length + Int.toNat (0 : Int) + (1 : Nat)) (by omega)
  rw [show ((0 : Nat) : Int) = (0 : Int) from rfl] at this
  rw [Wy.fin_bn, this, zzg (fun t : Term => !(t.Factors.length == 0)) a]
  have e : (a.all fun t : Term => !(t.Factors.length == 0)) = !hasC a := by simp [hasC, List.all_eq_not_any_not]
  rw [e]
  cases hasC a <;> rfl
def isC : List Term → Bool
  | [t] => t.Factors.length == 0
  | _ => false
theorem zbqd (a : List Term) : zic a = (true, isC a) := by
  unfold zic zsm
  match a with
  | [] => rfl
  | [t] => exact congrArg (Prod.mk true) (i0 t.Factors.length)
  | t :: u :: r =>
    have : ((Int.ofNat (t :: u :: r).length) == (1 : Int)) = false := by simp; omega
    rw [Wy.fin_i, this]; rfl
def oneF (p : Factor → Bool) : List Factor → Bool
  | [f] => p f
  | _ => false
def isU : List Term → Bool
  | [t] => t.Coeff == 1 && oneF (fun f => f.Exp == 1 && (f.Atom.Kind == 2 || f.Atom.Kind == 3 || f.Atom.Kind == 4)) t.Factors
  | _ => false
theorem idem_eq (x : Atom) : zfo x = (true, x.Kind == 3 || x.Kind == 4) := by
  unfold zfo zsj
  rw [Wy.fin_i, Wy.fin_k, Wy.fin_k]
  cases x.Kind == 3 <;> rfl
theorem len2 {τ : Type} (x y : τ) (r : List τ) : ((Int.ofNat (x :: y :: r).length) == (1 : Int)) = false := by
  rw [beq_eq_false_iff_ne]; simp; omega
theorem zbr4 (a : List Term) : zmt a = (true, isU a) := by
  unfold zmt zxm
  match a with
  | [] => rfl
  | ⟨c, []⟩ :: [] =>
    show (bif c != 1 then (true, false) else (true, false)) = (true, c == 1 && false)
    cases c != 1 <;> simp
  | ⟨c, [f]⟩ :: [] =>
    simp only [Wy.fin_i, Wy.fin_k, tT, isU, List.length_singleton, idem_eq, Wy.fin_bn, Wy.fin_d]
    show (bif c != 1 then (true, false) else bif f.Exp == 1 then bif f.Atom.Kind == 2 then (true, true) else (true, f.Atom.Kind == 3 || f.Atom.Kind == 4) else (true, false)) = (true, c == 1 && (f.Exp == 1 && (f.Atom.Kind == 2 || f.Atom.Kind == 3 || f.Atom.Kind == 4)))
    rw [show (c != 1) = !(c == 1) from rfl]
    cases c == 1 <;> cases f.Exp == 1 <;> cases f.Atom.Kind == 2 <;> simp
  | ⟨c, f :: g :: r⟩ :: [] =>
    simp only [Wy.fin_i, bne, len2]
    show (bif !(c == 1) then (true, false) else (true, false)) = (true, c == 1 && false)
    cases c == 1 <;> rfl
  | t :: u :: r => rw [Wy.fin_i, bne, len2]; rfl
def isB : List Term → Bool
  | [t] => t.Coeff == 1 && oneF (fun f => f.Exp == 1 && decide (2 ≤ f.Atom.Kind)) t.Factors
  | _ => false
theorem zbop (a : List Term) : zuf a = (true, isB a) := by
  unfold zuf z7x
  match a with
  | [] => rfl
  | ⟨c, []⟩ :: [] =>
    show (bif c == 1 then (true, false) else (true, false)) = (true, c == 1 && false)
    cases c == 1 <;> rfl
  | ⟨c, [f]⟩ :: [] =>
    simp only [Wy.fin_i, Wy.fin_k, tT, List.length_singleton, Wy.fin_bn, Wy.fin_d]
    show (bif c == 1 then bif decide (2 ≤ f.Atom.Kind) then (true, f.Exp == 1) else (true, false) else (true, false)) = (true, c == 1 && (f.Exp == 1 && decide (2 ≤ f.Atom.Kind)))
    cases c == 1 <;> cases f.Exp == 1 <;> cases decide (2 ≤ f.Atom.Kind) <;> simp
  | ⟨c, f :: g :: r⟩ :: [] =>
    rw [Wy.fin_i]
    show (bif true then (Wy.i true (Wy.i (c == 1) (Wy.i true (Wy.i (Int.ofNat (f :: g :: r).length == 1) _ (.k false)) .d) (.k false)) .d : Wy0 Bool).fin default else _) = (true, c == 1 && false)
    simp only [Wy.fin_i, Wy.fin_k, len2, cond_true, cond_false]
    cases c == 1 <;> rfl
  | t :: u :: r => rw [Wy.fin_i, len2]; rfl

theorem gt_not (a b : Nat) : decide (a > b) = !decide (a ≤ b) := by
  by_cases h : a ≤ b
  · have : ¬ a > b := by omega
    simp [h, this]
  · have : a > b := by omega
    simp [h, this]
def withF (t : Term) : Bool := !(decide (t.Factors.length > 64) || t.Factors.any fun f => decide (f.Exp > 64) || decide (f.Atom.Items.length > 1024))
def withA (a : List Term) : Bool := decide (a.length ≤ 512) && decide (nesAnn a ≤ 8) && decide (sizAnn a ≤ 4096) && a.all withF
theorem zbrv (l : List Factor) (h : l.length ≤ 1000000) : zck l = (true, l.any fun f => decide (f.Exp > 64) || decide (f.Atom.Items.length > 1024)) := by
  unfold zck zez
  have hw : zcl = IG_w2 (fun (_ : Unit) x => zf2 x) := by
    funext x y
    unfold zcl zkg IG_w2 IG_W2
    rw [Factor.eta2]
  have : zcx l = IG (fun (_ : Unit) x => zf2 x) (l.length + (Int.ofNat l.length).toNat + Int.toNat (0 : Int) + (1 : Nat)) () l := by
    unfold zcx zfb zkj
    rw [hw]; rfl
  exact ztg (this.trans (IG_eq _ _ _ _ _ (by omega) (fun x _ => by
    unfold zf2 zqv
    rw [Wy.fin_i, Wy.fin_k, Wy.fin_k]
    have e : decide (Int.ofNat x.Atom.Items.length > (1024 : Int)) = decide (x.Atom.Items.length > 1024) := gt_nat _ 1024
    rw [e]
    cases decide (x.Exp > 64) <;> rfl) (by omega)))
theorem zbpu {d : Nat} {a : List Term} (h : fineAnn d a) (hd : d ≤ 100) (hs : sizAnn a ≤ 4611686018427387904) : zmu a = (true, withA a) := by
  obtain ⟨h1, h2⟩ : a.length ≤ 1000000 ∧ ∀ t ∈ a, t.Factors.length ≤ 1000000 := by
    cases d with
    | zero => exact h.elim
    | succ d => exact ⟨h.1, fun t ht => (h.2 t ht).1⟩
  have h3 : zcd a = (true, a.any fun t => !withF t) := by
    unfold zcd zeq
    have : zdp a = IG (fun (_ : Unit) x => zmm x) (a.length + (Int.ofNat a.length).toNat + Int.toNat (0 : Int) + (1 : Nat)) () a := rfl
    exact ztg (this.trans (IG_eq _ _ _ _ _ (by omega) (fun x hx => by
      unfold zmm ztl
      rw [Wy.fin_i, Wy.fin_k, Wy.fin_bn, zbrv _ (h2 x hx)]
      have e : decide (Int.ofNat x.Factors.length > (64 : Int)) = decide (x.Factors.length > 64) := gt_nat _ 64
      rw [e]
      unfold withF
      cases decide (x.Factors.length > 64) <;> simp [Wy.fin_k]) (by omega)))
  unfold zmu zxt
  have n1 : zzc a = (true, (nesAnn a : Int)) := (Nes_all 1000 d a h (by omega) hd).1
  have n2 : z4t a = (true, (sizAnn a : Int)) := (zbnv 1000 d a h (by omega) hs).1
  simp only [Wy.fin_i, Wy.fin_k, Wy.fin_bn, n1, n2, h3, cond_true]
  have e1 : decide (Int.ofNat a.length > (512 : Int)) = !decide (a.length ≤ 512) := by rw [show decide (Int.ofNat a.length > (512 : Int)) = decide (a.length > 512) from gt_nat _ 512]; exact gt_not _ _
  have e2 : decide ((nesAnn a : Int) > (8 : Int)) = !decide (nesAnn a ≤ 8) := by rw [show decide ((nesAnn a : Int) > (8 : Int)) = decide (nesAnn a > 8) from gt_nat _ 8]; exact gt_not _ _
  have e3 : decide ((sizAnn a : Int) > (4096 : Int)) = !decide (sizAnn a ≤ 4096) := by rw [show decide ((sizAnn a : Int) > (4096 : Int)) = decide (sizAnn a > 4096) from gt_nat _ 4096]; exact gt_not _ _
  have e4 : (a.any fun t => !withF t) = !a.all withF := by simp [List.all_eq_not_any_not]
  rw [e1, e2, e3, e4]
  unfold withA
  cases decide (a.length ≤ 512) <;> cases decide (nesAnn a ≤ 8) <;> cases decide (sizAnn a ≤ 4096) <;> simp
theorem zbsw (c : Nat → Bool) (n i : Nat) {ρ : Type} (x y : ρ) : (bif allN c n i then x else y) = if allN c n i = true then x else y := by cases allN c n i <;> rfl
theorem Fits_9 (a : List Term) (i : Nat) (hi : i < a.length) (hl : (a.getD i default).Factors.length ≤ 1000000) (fuel : Nat) (hf : (a.getD i default).Factors.length < fuel) :
    zbki fuel a i 0 = (true, bif (a.getD i default).Factors.any fun f => decide (f.Exp > 64) || decide (f.Atom.Items.length > 1024) then .inl false else .inr (a, (i : Int))) := by
  have := zg0 (W := z2y) (z := .inl default) (a.getD i default).Factors.length (fun k => (a, (i : Int), (k : Int), ())) (fun _ => ()) (fun k => (fun f : Factor => !(decide (f.Exp > 64) || decide (f.Atom.Items.length > 1024))) ((a.getD i default).Factors.getD k default)) (.inl false) (.inr (a, (i : Int)))
    (fun k hk H K D => by
      show (zw4 a i k).ev H K D = _
      unfold zw4
      simp only [Wy.ev_i, Wy.ev_k, Wy.ev_h, Wy.ev_bn, Wy.ev_d, tT, hi, hk]
      rw [wrap_succ (by omega), show decide ((((a.getD i default).Factors.getD k default).Atom.Items.length : Int) > (1024 : Int)) = _ from gt_nat _ 1024]
      cases decide (((a.getD i default).Factors.getD k default).Exp > 64) <;> cases decide (1024 < ((a.getD i default).Factors.getD k default).Atom.Items.length) <;> rfl)
    (fun H K D => by
      show (zw4 a i (a.getD i default).Factors.length).ev H K D = _
      unfold zw4
      simp only [Wy.ev_i, Wy.ev_k, Wy.ev_h, Wy.ev_bn, Wy.ev_d, tT, hi, Nat.lt_irrefl]) fuel hf
  rw [zzg (fun f : Factor => !(decide (f.Exp > 64) || decide (f.Atom.Items.length > 1024)))] at this
  have e : ((a.getD i default).Factors.all fun f => !(decide (f.Exp > 64) || decide (f.Atom.Items.length > 1024))) = !((a.getD i default).Factors.any fun f => decide (f.Exp > 64) || decide (f.Atom.Items.length > 1024)) := by simp [List.all_eq_not_any_not]
  rw [e] at this
  refine this.trans ?_
  cases (a.getD i default).Factors.any fun f => decide (f.Exp > 64) || decide (f.Atom.Items.length > 1024) <;> rfl
theorem Fits_eq {d : Nat} {a : List Term} (h : fineAnn d a) (hd : d ≤ 100) (hs : sizAnn a ≤ 4611686018427387904) : zz4 a = (true, withA a) := by
  obtain ⟨h1, h2⟩ : a.length ≤ 1000000 ∧ ∀ t ∈ a, t.Factors.length ≤ 1000000 := by
    cases d with
    | zero => exact h.elim
    | succ d => exact ⟨h.1, fun t ht => (h.2 t ht).1⟩
  have h3 : zbj7 ((a.length + Int.toNat (0 : Int) + (1 : Nat)) + szTs a) a 0 = (true, bif a.all withF then .inr () else .inl false) := by
    have := zg0 (W := z2w) (z := .inl default) a.length (fun k => (a, (k : Int), ())) (fun _ => ()) (fun k => withF (a.getD k default)) (.inl false) (.inr ())
      (fun k hk H K D => by
        show (zww a k).ev H K D = _
        unfold zww
        have h4 := h2 _ (getD_mem hk)
        have h5 := zbi5 a k hk
        simp only [Wy.ev_i, Wy.ev_k, Wy.ev_h, Wy.ev_bn, Wy.ev_d, tT, hk]
        rw [Fits_9 a k hk h4 _ (by omega)]
        have e : decide (((a.getD k default).Factors.length : Int) > (64 : Int)) = decide ((a.getD k default).Factors.length > 64) := gt_nat _ 64
        rw [e]
        unfold withF
        cases decide ((a.getD k default).Factors.length > 64) <;> cases ((a.getD k default).Factors.any fun f => decide (f.Exp > 64) || decide (f.Atom.Items.length > 1024))
        · simp only [cond_false, cond_true, isL, getR]; rw [wrap_succ (by omega)]; rfl
        all_goals rfl)
      (fun H K D => by
        show (zww a a.length).ev H K D = _
        unfold zww
        simp only [Wy.ev_i, Wy.ev_k, Wy.ev_h, Wy.ev_bn, Wy.ev_d, tT, Nat.lt_irrefl]) ((a.length + Int.toNat (0 : Int) + (1 : Nat)) + szTs a) (by omega)
    rw [zzg] at this
    exact this
  unfold zz4 zbeh
  have n1 : zba2 a = (true, (nesAnn a : Int)) := (Nes_all 1000 d a h (by omega) hd).2
  have n2 : zbi8 a = (true, (sizAnn a : Int)) := (zbnv 1000 d a h (by omega) hs).2
  simp only [Wy.fin_i, Wy.fin_k, Wy.fin_bn, n1, n2, h3, cond_true]
  have e1 : decide (Int.ofNat a.length > (512 : Int)) = !decide (a.length ≤ 512) := by rw [show decide (Int.ofNat a.length > (512 : Int)) = decide (a.length > 512) from gt_nat _ 512]; exact gt_not _ _
  have e2 : decide ((nesAnn a : Int) > (8 : Int)) = !decide (nesAnn a ≤ 8) := by rw [show decide ((nesAnn a : Int) > (8 : Int)) = decide (nesAnn a > 8) from gt_nat _ 8]; exact gt_not _ _
  have e3 : decide ((sizAnn a : Int) > (4096 : Int)) = !decide (sizAnn a ≤ 4096) := by rw [show decide ((sizAnn a : Int) > (4096 : Int)) = decide (sizAnn a > 4096) from gt_nat _ 4096]; exact gt_not _ _
  rw [e1, e2, e3]
  unfold withA
  cases decide (a.length ≤ 512) <;> cases decide (nesAnn a ≤ 8) <;> cases decide (sizAnn a ≤ 4096) <;> cases a.all withF <;> simp [isL, getL]

def valV (v : Value) : Bool := (v.Kind == 0 && v.Text.size == 0) || (v.Kind == 1 && v.Int == 0 && decide (v.Text.size ≤ 255)) || (v.Kind == 2 && v.Text.size == 0 && (v.Int == 0 || v.Int == 1))
theorem zbq0 (s : ByteArray) : (s.toList == (ByteArray.mk #[]).toList) = (s.size == 0) := by
  rw [zblr]
  by_cases h : s.size = 0
  · have : s = ByteArray.mk #[] := zbl1 (by
      have : s.data.toList.length = 0 := by simpa using h
      rw [List.length_eq_zero_iff.1 this])
    subst this; rfl
  · have : ¬ s = ByteArray.mk #[] := fun e => h (by rw [e]; rfl)
    simp [h, this]
theorem zbi2 (v : Value) : ztp v = (true, valV v) := by
  unfold ztp zbbo valV
  simp only [zbq0, Wy.fin_i, Wy.fin_k, beqd, beqn]
  have e : decide (Int.ofNat v.Text.size ≤ (255 : Int)) = decide (v.Text.size ≤ 255) := le_nat _ 255
  rw [e]
  by_cases h0 : v.Kind = 0
  · simp [h0]
  · by_cases h1 : v.Kind = 1
    · by_cases h2 : v.Int = 0 <;> simp [h1, h2]
    · by_cases h2 : v.Kind = 2
      · by_cases h3 : v.Int = 0
        · simp [h2, h3]
        · by_cases h4 : v.Int = 1 <;> simp [h2, h3, h4]
      · simp [h0, h1, h2]
theorem zbh8 (v : Value) : zxg v = (true, valV v) := by
  unfold zxg zbax valV
  simp only [zbq0, Wy.fin_i, Wy.fin_k, beqd, beqn]
  have e : decide (Int.ofNat v.Text.size ≤ (255 : Int)) = decide (v.Text.size ≤ 255) := le_nat _ 255
  rw [e]
  by_cases h0 : v.Kind = 0
  · simp [h0]
  · by_cases h1 : v.Kind = 1
    · by_cases h2 : v.Int = 0 <;> simp [h1, h2]
    · by_cases h2 : v.Kind = 2
      · by_cases h3 : v.Int = 0
        · by_cases h4 : v.Text.size = 0 <;> simp [h2, h3, h4]
        · by_cases h4 : v.Text.size = 0 <;> simp [h2, h3, h4]
      · simp [h0, h1, h2]
def fitI (fn : Int) (b : Value) (w : Weighted) : Bool := valV w.Value && (w.Value.Kind == b.Kind) && !(fn == 0 && w.Value.Int != 1)
def fitK (fn : Int) (l : List Weighted) (op : Int) (b : Value) : Bool := decide (0 ≤ fn) && decide (fn ≤ 3) && decide (5 ≤ op) && decide (op ≤ 10) && valV b && !(decide (fn ≤ 1) && b.Kind != 0) && l.all (fitI fn b)
theorem zbsm (l : List Weighted) (fn : Int) (b : Value) (h : l.length ≤ 1000000) : zbv l b fn = (true, !l.all (fitI fn b)) := by
  unfold zbv zd5
  have : zdc l b fn = IG (fun (g : Value × (Int × Unit) × Unit) x => zib x g.1 g.2.1.1) (l.length + fn.toNat + (Int.ofNat l.length).toNat + Int.toNat (0 : Int) + (1 : Nat)) (b, (fn, ()), ()) l := rfl
  have e : (!l.all (fitI fn b)) = l.any fun w => !fitI fn b w := by simp [List.all_eq_not_any_not]
  rw [e]
  exact ztg (this.trans (IG_eq _ _ _ _ _ (by omega) (fun x _ => by
    show zib x b fn = _
    unfold zib zss fitI
    simp only [Wy.fin_i, Wy.fin_k, Wy.fin_bn, zbi2, cond_true, beqd, bne0]
    cases valV x.Value <;> by_cases h1 : x.Value.Kind = b.Kind <;> by_cases h2 : fn = 0 <;> simp [beqd, bne0, h1, h2]) (by omega)))
theorem zboo (fn : Int) (l : List Weighted) (op : Int) (b : Value) (h : l.length ≤ 1000000) : zlm fn l op b = (true, fitK fn l op b) := by
  unfold zlm zv4 fitK
  simp only [Wy.fin_i, Wy.fin_k, Wy.fin_bn, zbi2, zbsm l fn b h, cond_true, beqd, bne0]
  by_cases h1 : fn < 0
  · have : ¬ (0 ≤ fn) := by omega
    simp [h1, this]
  by_cases h2 : 3 < fn
  · have : ¬ (fn ≤ 3) := by omega
    simp [h1, h2, this]
  by_cases h3 : op < 5
  · have : ¬ (5 ≤ op) := by omega
    simp [h1, h2, h3, this]
  by_cases h4 : 10 < op
  · have : ¬ (op ≤ 10) := by omega
    simp [h1, h2, h3, h4, this]
  have g1 : 0 ≤ fn := by omega
  have g2 : fn ≤ 3 := by omega
  have g3 : 5 ≤ op := by omega
  have g4 : op ≤ 10 := by omega
  cases valV b with
  | false => simp [h1, h2, h3, h4]
  | true =>
    by_cases h5 : fn = 0
    · subst h5; by_cases h6 : b.Kind = 0 <;> simp [h3, h4, h6, g3, g4]
    · by_cases h7 : fn = 1
      · subst h7; by_cases h6 : b.Kind = 0 <;> simp [h3, h4, h6, g3, g4]
      · have : ¬ fn ≤ 1 := by omega
        simp [h1, h2, h3, h4, h5, h7, this, g1, g2, g3, g4]
theorem zbqq (fn : Int) (l : List Weighted) (op : Int) (b : Value) (h : l.length ≤ 1000000) : zxi fn l op b = (true, fitK fn l op b) := by
  unfold zxi zba6 fitK
  have hl : z7q (fn.toNat + l.length + Int.toNat (0 : Int) + (1 : Nat)) fn l (0 : Int) b = (true, bif l.all (fitI fn b) then .inr () else .inl false) := by
    have := zg0 (W := zz6) (z := .inl default) l.length (fun k => (fn, l, (), (k : Int), ())) (fun _ => (b, ())) (fun k => fitI fn b (l.getD k default)) (.inl false) (.inr ())
      (fun k hk H K D => by
        show (zun fn l k b).ev H K D = _
        unfold zun fitI
        simp only [Wy.ev_i, Wy.ev_k, Wy.ev_h, Wy.ev_bn, Wy.ev_d, tT, hk, zbh8, beqd, bne0]
        rw [wrap_succ (by omega)]
        cases valV (l.getD k default).Value <;> cases decide ((l.getD k default).Value.Kind = b.Kind) <;> cases decide (fn = 0) <;> cases decide ((l.getD k default).Value.Int = 1) <;> rfl)
      (fun H K D => by
        show (zun fn l l.length b).ev H K D = _
        unfold zun
        simp only [Wy.ev_i, Wy.ev_k, Wy.ev_h, Wy.ev_bn, Wy.ev_d, tT, Nat.lt_irrefl]) (fn.toNat + l.length + Int.toNat (0 : Int) + (1 : Nat)) (by omega)
    rw [zzg] at this
    exact this
  simp only [Wy.fin_i, Wy.fin_k, Wy.fin_bn, zbh8, hl, cond_true, beqd, bne0]
  by_cases h1 : fn < 0
  · have : ¬ (0 ≤ fn) := by omega
    simp [h1, this]
  by_cases h2 : 3 < fn
  · have : ¬ (fn ≤ 3) := by omega
    simp [h1, h2, this]
  by_cases h3 : op < 5
  · have : ¬ (5 ≤ op) := by omega
    simp [h1, h2, h3, this]
  by_cases h4 : 10 < op
  · have : ¬ (op ≤ 10) := by omega
    simp [h1, h2, h3, h4, this]
  have g1 : 0 ≤ fn := by omega
  have g2 : fn ≤ 3 := by omega
  have g3 : 5 ≤ op := by omega
  have g4 : op ≤ 10 := by omega
  cases valV b with
  | false => simp [h1, h2, h3, h4]
  | true =>
    by_cases h5 : fn ≤ 1
    · by_cases h6 : b.Kind = 0
      · cases l.all (fitI fn b) <;> simp [h1, h2, h3, h4, h5, h6, g1, g2, g3, g4, isL, getL]
      · simp [h1, h2, h3, h4, h5, h6, g1, g2, g3, g4]
    · cases l.all (fitI fn b) <;> simp [h1, h2, h3, h4, h5, g1, g2, g3, g4, isL, getL]
def bz (b : Value) : Bool := b.Kind == (0 : Int) && (b.Int == (0 : Int) && (b.Text.toList == (ByteArray.mk #[]).toList && true))
def plA (x : Atom) : Bool := x.Func == 0 && (x.Items.length == 0) && x.Op == 0 && bz x.Bound
theorem zbsc (x : Atom) : zq3 x = (true, plA x) := by
  unfold zq3 zbbi plA
  simp only [Wy.fin_i, Wy.fin_k, Int.ofNat_eq_natCast, i0]
  show _ = (true, _ && _ && _ && bz x.Bound)
  rw [show (x.Bound.Kind == (0 : Int) && (x.Bound.Int == (0 : Int) && (x.Bound.Text.toList == (ByteArray.mk #[]).toList && true))) = bz x.Bound from rfl]
  cases x.Func == 0 <;> cases x.Items.length == 0 <;> cases x.Op == 0 <;> rfl
def srtI (l : List Weighted) (k : Nat) : Bool := decide (k = 0) || decide (cmpT (trItem (l.getD (k - 1) default)) (trItem (l.getD k default)) ≤ 0)
def srtW (l : List Weighted) : Bool := allN (srtI l) l.length 0
theorem zbpo (c : Nat → Bool) : ∀ n i, allN c (n + 1) i = (allN c n i && c (i + n))
  | 0, i => by simp [allN]
  | n + 1, i => by
    rw [allN, zbpo c n (i + 1), allN, show i + 1 + n = i + (n + 1) by omega, Bool.and_assoc]
theorem zbke {d : Nat} (l : List Weighted) (hl : l.length ≤ 1000000) (h : ∀ w ∈ l, fineAnn d w.Ann) (hd : d ≤ 99) : ∀ (n i : Nat), i < l.length → i < n → zem n l i = (true, bif allN (srtI l) (i + 1) 0 then .inr () else .inl false)
  | 0, i, hi, hn => by omega
  | n + 1, i, hi, hn => by
    show (zel l i).ev (fun x y => zem n x.1 x.2.2.1) (fun r => (true, r)) (false, .inl default) = _
    unfold zel
    have hg : decide ((i : Int) > (0 : Int)) = decide (0 < i) := gt_nat i 0
    cases i with
    | zero => simp [Wy.ev_i, Wy.ev_k, allN, srtI]
    | succ i =>
      have hi' : i < l.length := by omega
      have hw : IntKind.i64.wrap (((i + 1 : Nat) : Int) - 1) = (i : Int) := by rw [wrap_pred (by omega) (by omega)]; rfl
      have hp : decide (0 < i + 1) = true := by simp
      simp only [Wy.ev_i, Wy.ev_k, Wy.ev_h, Wy.ev_bn, Wy.ev_d, hg, hp, hw, tT, hi, hi', zpn (h _ (getD_mem hi)) hd]
      rw [zbke l hl h hd n i hi' (by omega), zbpo _ (i + 1), Nat.zero_add]
      have : srtI l (i + 1) = !decide (cmpT (trItem (l.getD (i + 1) default)) (trItem (l.getD i default)) < 0) := by
        unfold srtI
        rw [show i + 1 - 1 = i from rfl, cmpT_anti (trItem (l.getD (i + 1) default)) (trItem (l.getD i default))]
        generalize cmpT (trItem (l.getD (i + 1) default)) (trItem (l.getD i default)) = z
        by_cases hz : z < 0
        · have : ¬ (-z ≤ 0) := by omega
          simp [hz, this]
        · have : (-z ≤ 0) := by omega
          simp [hz, this]
      rw [this]
      cases decide (cmpT (trItem (l.getD (i + 1) default)) (trItem (l.getD i default)) < 0) <;> simp
theorem zbrd {d : Nat} (l : List Weighted) (hl : l.length ≤ 1000000) (h : ∀ w ∈ l, fineAnn d w.Ann) (hd : d ≤ 99) : zcf l = (true, srtW l) := by
  unfold zcf zer srtW
  match l, hl, h with
  | [], _, _ => rfl
  | x :: r, hl, h =>
    have hw : IntKind.i64.wrap (Int.ofNat (x :: r).length - 1) = (r.length : Int) := by
      rw [List.length_cons] at hl
      rw [show Int.ofNat (x :: r).length = (((x :: r).length : Nat) : Int) from rfl, wrap_pred (by simp) (by simp; omega)]; rfl
    rw [Wy.fin_bn, hw, zbke (x :: r) hl h hd _ r.length (by simp) (by simp; omega)]
    cases allN (srtI (x :: r)) (r.length + 1) 0 with
    | true => simp [Wy.fin_i, Wy.fin_k, isL]
    | false => simp [Wy.fin_i, Wy.fin_k, isL, getL]

def rz (r : RowID) : Bool := r.Table == (0 : Int) && (r.Seq == (0 : Int) && true)
def argsOK (V : List Term → Bool) (l : List (List Term)) : Bool := l.all fun a => V a && !(a.length == 0)
def itemsOK (V : List Term → Bool) (l : List Weighted) : Bool := l.all fun w => V w.Ann && !(w.Ann.length == 0)
def rowOK (r : RowID) : Bool := decide (r.Table ≥ 1) && decide (r.Seq ≥ 1)
def args1 (p : List Term → Bool) : List (List Term) → Bool
  | [a] => p a
  | _ => false
def args2 (p : List Term → List Term → Bool) : List (List Term) → Bool
  | [a, b] => p a b
  | _ => false
def vAtom (V : List Term → Bool) (x : Atom) : Bool :=
  argsOK V x.Args &&
  if x.Kind = 0 then plA x && rowOK x.Row && (x.Args.length == 0)
  else rz x.Row &&
    if x.Kind = 1 then plA x && args2 (fun a b => !decide (a = b)) x.Args
    else if x.Kind = 2 then plA x && args1 (fun a => !isC a && !isU a) x.Args
    else if x.Kind = 3 then plA x && args1 (fun a => !hasC a) x.Args
    else if x.Kind = 4 then (x.Args.length == 0) && decide (0 < x.Items.length) && itemsOK V x.Items && srtW x.Items && fitK x.Func x.Items x.Op x.Bound
    else false
def chkF (vat : Atom → Bool) (fs : List Factor) (k : Nat) : Bool :=
  decide (1 ≤ (fs.getD k default).Exp) && !(((fs.getD k default).Atom.Kind == 3 || (fs.getD k default).Atom.Kind == 4) && (fs.getD k default).Exp != 1) &&
    (decide (k = 0) || decide (cmpT (trAtom (fs.getD (k - 1) default).Atom) (trAtom (fs.getD k default).Atom) < 0)) && vat (fs.getD k default).Atom
def okF (vat : Atom → Bool) (fs : List Factor) : Bool := allN (chkF vat fs) fs.length 0
def chkT (vat : Atom → Bool) (a : List Term) (i : Nat) : Bool :=
  decide (1 ≤ (a.getD i default).Coeff) && decide ((a.getD i default).Coeff ≤ 1152921504606846976) &&
    (decide (i = 0) || decide (cmpL (zco (a.getD (i - 1) default).Factors) (zco (a.getD i default).Factors) < 0)) && okF vat (a.getD i default).Factors
def vAnn (vat : Atom → Bool) (a : List Term) : Bool := withA a && allN (chkT vat a) a.length 0
def validD : Nat → List Term → Bool
  | 0, _ => false
  | n + 1, a => vAnn (vAtom (validD n)) a

theorem zboe (r : RowID) : zrh r = (true, rowOK r) := by
  unfold zrh z71 rowOK
  rw [Wy.fin_i, Wy.fin_k, Wy.fin_k]
  cases decide (r.Table ≥ 1) <;> rfl
theorem zbjr {V : List Term → Bool} {x : Atom} (h : vAtom V x = true) : 0 ≤ x.Kind ∧ x.Kind ≤ 4 := by
  unfold vAtom at h
  by_cases h0 : x.Kind = 0
  · omega
  by_cases h1 : x.Kind = 1
  · omega
  by_cases h2 : x.Kind = 2
  · omega
  by_cases h3 : x.Kind = 3
  · omega
  by_cases h4 : x.Kind = 4
  · omega
  simp [h0, h1, h2, h3, h4] at h
theorem nat_i (l k : Nat) : ((Int.ofNat l) == (k : Int)) = (l == k) := by
  rw [beqd, beqn]; congr 1; simp; omega
section
variable (V : List Term → Bool) (gW : List Weighted → Bool × Bool) (gA : List (List Term) → Bool × Bool) (c1 : List Term → Bool × Bool) (c2 : Weighted → Bool × Bool)
theorem zbo7 (x : Atom) {d : Nat} (hx : zha (fineAnn d) x) (hd : d ≤ 99) (hA : gA x.Args = (true, !argsOK V x.Args)) (hW : gW x.Items = (true, !itemsOK V x.Items)) :
    zkw gW gA c1 c2 x = (true, vAtom V x) := by
  have hS := zbrd x.Items hx.1.2.1 (fun w hw => (hx.2.2 w hw).2) hd
  have hF := zboo x.Func x.Items x.Op x.Bound hx.1.2.1
  have hE : ∀ a ∈ x.Args, ∀ b, zld a b = (true, decide (a = b)) := fun a ha b => zbkt (hx.2.1 a ha) (by omega) b
  have hC : ∀ a ∈ x.Args, zfa a = (true, hasC a) := fun a ha => zbpa a (by
    have := hx.2.1 a ha
    cases d with
    | zero => exact this.elim
    | succ d => have := this.1; omega)
  obtain ⟨k, r, l, f, its, o, b⟩ := x
  simp only at hA hW hS hF hE hC
  unfold zkw zb8 vAtom plA
  simp only [zboe, hA, hW, hS, hF, Wy.fin_i, Wy.fin_k, Wy.fin_bn, cond_true]
  rw [show (b.Kind == (0 : Int) && (b.Int == (0 : Int) && (b.Text.toList == (ByteArray.mk #[]).toList && true))) = bz b from rfl,
    show (r.Table == (0 : Int) && (r.Seq == (0 : Int) && true)) = rz r from rfl,
    show (Int.ofNat its.length != 0) = !(its.length == 0) from congrArg not (nat_i its.length 0), show (f != 0) = !(f == 0) from rfl, show (o != 0) = !(o == 0) from rfl]
  generalize argsOK V l = A at *
  generalize itemsOK V its = W at *
  generalize bz b = B at *
  generalize (f == 0) = F at *
  generalize (o == 0) = O at *
  generalize rz r = R at *
  generalize rowOK r = RO at *
  generalize srtW its = S at *
  generalize fitK f its o b = K at *
  have hgt : decide (Int.ofNat its.length > 0) = decide (0 < its.length) := gt_nat its.length 0
  rw [hgt]
  generalize (its.length == 0) = I at *
  generalize decide (0 < its.length) = J at *
  by_cases h0 : k = 0
  · subst h0
    simp only [nat_i, show ((Int.ofNat l.length) == (0 : Int)) = (l.length == 0) from nat_i l.length 0]
    generalize (l.length == 0) = L
    cases F <;> cases I <;> cases O <;> cases B <;> cases A <;> cases RO <;> rfl
  by_cases h1 : k = 1
  · subst h1
    match l, hE with
    | [], _ => cases F <;> cases I <;> cases O <;> cases B <;> cases A <;> cases R <;> rfl
    | [u], _ => cases F <;> cases I <;> cases O <;> cases B <;> cases A <;> cases R <;> rfl
    | [u, v], hE =>
      have e := hE u (by simp) v
      simp only [List.getD, List.length_cons, List.length_nil, Int.toNat_zero, List.getElem?_cons_zero, List.getElem?_cons_succ, Option.getD, show Int.toNat 1 = 1 from rfl, args2]
      simp only [e]
      generalize decide (u = v) = E
      cases F <;> cases I <;> cases O <;> cases B <;> cases A <;> cases R <;> rfl
    | u :: v :: w :: l, _ =>
      have e : ((Int.ofNat (u :: v :: w :: l).length) == (2 : Int)) = false := by rw [beq_eq_false_iff_ne]; simp; omega
      simp only [e]
      cases F <;> cases I <;> cases O <;> cases B <;> cases A <;> cases R <;> rfl
  by_cases h2 : k = 2
  · subst h2
    match l with
    | [] => cases F <;> cases I <;> cases O <;> cases B <;> cases A <;> cases R <;> rfl
    | [u] =>
      simp only [List.getD, List.length_cons, List.length_nil, Int.toNat_zero, List.getElem?_cons_zero, Option.getD, args1, zbqd, zbr4]
      generalize isC u = E
      generalize isU u = E'
      cases F <;> cases I <;> cases O <;> cases B <;> cases A <;> cases R <;> cases E <;> cases E' <;> rfl
    | u :: v :: l =>
      simp only [len2]
      cases F <;> cases I <;> cases O <;> cases B <;> cases A <;> cases R <;> rfl
  by_cases h3 : k = 3
  · subst h3
    match l, hC with
    | [], _ => cases F <;> cases I <;> cases O <;> cases B <;> cases A <;> cases R <;> rfl
    | [u], hC =>
      have e := hC u (by simp)
      simp only [List.getD, List.length_cons, List.length_nil, Int.toNat_zero, List.getElem?_cons_zero, Option.getD, args1]
      simp only [e]
      generalize hasC u = E
      cases F <;> cases I <;> cases O <;> cases B <;> cases A <;> cases R <;> cases E <;> rfl
    | u :: v :: l, _ =>
      simp only [len2]
      cases F <;> cases I <;> cases O <;> cases B <;> cases A <;> cases R <;> rfl
  by_cases h4 : k = 4
  · subst h4
    simp only [show ((Int.ofNat l.length) == (0 : Int)) = (l.length == 0) from nat_i l.length 0]
    generalize (l.length == 0) = L
    cases A <;> cases W <;> cases L <;> cases J <;> cases S <;> cases K <;> cases R <;> rfl
  simp only [beqd, h0, h1, h2, h3, h4, decide_false, if_false, cond_false]
  cases F <;> cases I <;> cases O <;> cases B <;> cases A <;> cases R <;> rfl
end
section
variable (V : List Term → Bool) (g : List Term → Bool × Bool)
theorem Rargs (x : Atom) (hl : x.Args.length ≤ 1000000) (hg : ∀ a ∈ x.Args, g a = (true, V a)) (n : Nat) (hn : x.Args.length < n) : zwg g n 0 x = (true, bif argsOK V x.Args then .inr x else .inl false) := by
  have := zg0 (W := zqq g) (z := .inl default) x.Args.length (fun i => ((), (i : Int), ())) (fun _ => (x, ())) (fun i => (fun a : List Term => V a && !(a.length == 0)) (x.Args.getD i default)) (.inl false) (.inr x)
    (fun i hi H K D => by
      show (zmj g i x).ev H K D = _
      unfold zmj
      have hL : decide ((i : Int) < Int.ofNat x.Args.length) = true := by simp [hi]
      simp only [Wy.ev_i, Wy.ev_k, Wy.ev_h, Wy.ev_bn, Wy.ev_d, hL, le0_nat, Bool.and_self, cond_true, Int.toNat_natCast, hg _ (getD_mem hi)]
      rw [wrap_succ (by omega), show (Int.ofNat (x.Args.getD i default).length == (0 : Int)) = ((x.Args.getD i default).length == 0) from nat_i _ 0]
      cases V (x.Args.getD i default) <;> cases ((x.Args.getD i default).length == 0) <;> rfl)
    (fun H K D => by
      show (zmj g x.Args.length x).ev H K D = _
      unfold zmj
      have hL : decide ((x.Args.length : Int) < Int.ofNat x.Args.length) = false := by simp
      simp only [Wy.ev_i, Wy.ev_k, hL, cond_false]) n hn
  rw [zzg (fun a : List Term => V a && !(a.length == 0))] at this
  exact this
theorem take1 {τ : Type} [Inhabited τ] (l : List τ) (i : Nat) (h : i < l.length) : List.take 1 (List.drop i l) = [l.getD i default] := by
  rw [drop_lt h]; rfl
theorem cmpL1 (x y : TT) : cmpL [x] [y] = cmpT x y := by
  simp only [cmpL]
  split
  · rename_i h; exact h.symm
  · rfl
theorem Ritems (x : Atom) {d : Nat} (hx : zha (fineAnn d) x) (hd : d ≤ 99) (hg : ∀ a ∈ x.Items, g a.Ann = (true, V a.Ann)) (n : Nat) (hn : x.Items.length < n) : z3m g n 0 x = (true, bif itemsOK V x.Items && srtW x.Items then .inr () else .inl false) := by
  have hl : x.Items.length ≤ 1000000 := hx.1.2.1
  have := zg0 (W := zpf g) (z := .inl default) x.Items.length (fun i => ((), (i : Int), ())) (fun _ => (x, ())) (fun i => (fun w : Weighted => V w.Ann && !(w.Ann.length == 0)) (x.Items.getD i default) && srtI x.Items i) (.inl false) (.inr ())
    (fun i hi H K D => by
      show (zlh g i x).ev H K D = _
      unfold zlh
      have hL : decide ((i : Int) < Int.ofNat x.Items.length) = true := by simp [hi]
      simp only [Wy.ev_i, Wy.ev_k, Wy.ev_h, Wy.ev_bn, Wy.ev_d, hL, le0_nat, Bool.and_self, cond_true, Int.toNat_natCast, hg _ (getD_mem hi)]
      rw [wrap_succ (by omega), show (Int.ofNat (x.Items.getD i default).Ann.length == (0 : Int)) = ((x.Items.getD i default).Ann.length == 0) from nat_i _ 0]
      cases V (x.Items.getD i default).Ann <;> cases ((x.Items.getD i default).Ann.length == 0) <;> try rfl
      simp only [cond_true, cond_false, Bool.not_true, Bool.not_false, Bool.and_self, Bool.true_and]
      cases i with
      | zero => rfl
      | succ i =>
        have hi' : i < x.Items.length := by omega
        have hw : IntKind.i64.wrap (((i + 1 : Nat) : Int) - 1) = (i : Int) := by rw [wrap_pred (by omega) (by omega)]; rfl
        have e1 : (decide ((0 : Int) ≤ (i : Int)) && decide ((i : Int) ≤ ((i + 1 : Nat) : Int)) && decide (((i + 1 : Nat) : Int) ≤ Int.ofNat x.Items.length)) = true := by
          simp; try omega
        have e2 : (decide (((i + 1 : Nat) : Int) ≤ ((i + 1 + 1 : Nat) : Int)) && decide (((i + 1 + 1 : Nat) : Int) ≤ Int.ofNat x.Items.length)) = true := by
          simp; try omega
        have e3 : decide (((i + 1 : Nat) : Int) > 0) = true := by simp; try omega
        simp only [hw, e1, e2, e3, cond_true, Bool.true_and, Int.toNat_natCast, show i + 1 - i = 1 by omega, show i + 1 + 1 - (i + 1) = 1 by omega, take1 _ _ hi, take1 _ _ hi']
        rw [zuj (d := d) (by simp) (fun w hw => by
          rw [List.mem_singleton] at hw; subst hw; exact (hx.2.2 _ (getD_mem hi')).2) hd, zod, zod]
        simp only [List.map, cmpL1, cond_true, srtI, show i + 1 - 1 = i from rfl]
        have e4 : decide (i + 1 = 0) = false := by simp
        rw [e4, Bool.false_or]
        generalize cmpT (trItem (x.Items.getD i default)) (trItem (x.Items.getD (i + 1) default)) = z
        by_cases hz : z > 0
        · have : ¬ z ≤ 0 := by omega
          simp only [hz, this, decide_true, decide_false, cond_true, cond_false]
        · have : z ≤ 0 := by omega
          simp only [hz, this, decide_true, decide_false, cond_true, cond_false])
    (fun H K D => by
      show (zlh g x.Items.length x).ev H K D = _
      unfold zlh
      have hL : decide ((x.Items.length : Int) < Int.ofNat x.Items.length) = false := by simp
      simp only [Wy.ev_i, Wy.ev_k, hL, cond_false]) n hn
  rw [zbqx (fun i => (fun w : Weighted => V w.Ann && !(w.Ann.length == 0)) (x.Items.getD i default)), zzg (fun w : Weighted => V w.Ann && !(w.Ann.length == 0))] at this
  exact this
theorem fin_bnt {A ρ : Type} (s : A) (k : A → Wy0 ρ) (z : ρ) : (Wy.bn (true, s) k).fin z = (k s).fin z := rfl
theorem zbou (x : Atom) {d : Nat} (hx : zha (fineAnn d) x) (hd : d ≤ 99) (h10 : x.Items.length ≤ 1024) (hV : ∀ a, V a = true → isB a = isU a) (hgA : ∀ a ∈ x.Args, g a = (true, V a)) (hgI : ∀ a ∈ x.Items, g a.Ann = (true, V a.Ann)) :
    zp5 g x = (true, vAtom V x) := by
  have hS := fun n hn => Ritems V g x hx hd hgI n hn
  have hA := fun n hn => Rargs V g x hx.1.1 hgA n hn
  have hF := zbqq x.Func x.Items x.Op x.Bound hx.1.2.1
  have hE : ∀ a ∈ x.Args, ∀ b, zvu a b = (true, decide (a = b)) := fun a ha b => zbj4 (hx.2.1 a ha) (by omega) b
  have hC : ∀ a ∈ x.Args, zny a = (true, hasC a) := fun a ha => zbmr a (by
    have := hx.2.1 a ha
    cases d with
    | zero => exact this.elim
    | succ d => have := this.1; omega)
  have hP := zbsc x
  unfold zp5 zxn vAtom
  obtain ⟨s, hs1, hs2⟩ : ∃ s, zwg g ((Int.toNat (0 : Int) + (1 : Nat)) + x.Args.length + x.Items.length) 0 x = (true, s) ∧ s = bif argsOK V x.Args then .inr x else .inl false := ⟨_, hA _ (by omega), rfl⟩
  rw [Atom.eta, hP, hs1]
  simp only [Wy.fin_i, Wy.fin_k, fin_bnt]
  simp only [Wy.fin_i, Wy.fin_k, Wy.fin_bn, cond_true]
  rw [show (x.Row.Table == (0 : Int) && (x.Row.Seq == (0 : Int) && true)) = rz x.Row from rfl]
  have b0 : (x.Kind == (0 : Int)) = decide (x.Kind = 0) := beqd _ _
  have b1 : (x.Kind == (1 : Int)) = decide (x.Kind = 1) := beqd _ _
  have b2 : (x.Kind == (2 : Int)) = decide (x.Kind = 2) := beqd _ _
  have b3 : (x.Kind == (3 : Int)) = decide (x.Kind = 3) := beqd _ _
  have b4 : (x.Kind == (4 : Int)) = decide (x.Kind = 4) := beqd _ _
  by_cases h0 : x.Kind = 0
  · rw [b0]
    simp only [h0, decide_true, cond_true, if_true]
    rw [show (Int.ofNat x.Args.length == (0 : Int)) = (x.Args.length == 0) from nat_i _ 0]
    unfold rowOK
    match hl : x.Args with
    | [] => cases decide (x.Row.Table ≥ 1) <;> cases decide (x.Row.Seq ≥ 1) <;> cases plA x <;> rfl
    | u :: l => cases decide (x.Row.Table ≥ 1) <;> cases decide (x.Row.Seq ≥ 1) <;> cases plA x <;> cases argsOK V (u :: l) <;> rfl
  rw [b0]
  simp only [h0, decide_false, cond_false, if_false]
  cases hA : argsOK V x.Args with
  | false => rw [hs2, hA]; cases rz x.Row <;> rfl
  | true =>
  rw [hA, cond_true] at hs2
  have hy : getR s = x := by rw [hs2]; rfl
  have hy2 : isL s = false := by rw [hs2]; rfl
  rw [hy2]
  generalize getR s = y at hy ⊢
  subst hy
  cases rz y.Row with
  | false => rfl
  | true =>
  simp only [Bool.not_true, cond_false, cond_true, isL, getR, Bool.true_and, Atom.eta, hP, hF, b1, b2, b3, b4]
  by_cases h1 : y.Kind = 1
  · simp only [h1, decide_true, cond_true, if_true]
    match hl : y.Args with
    | [] => cases plA y <;> rfl
    | [u] => cases plA y <;> rfl
    | [u, v] =>
      have e := hE u (by rw [hl]; simp) v
      simp only [List.getD, List.length_cons, List.length_nil, Int.toNat_zero, List.getElem?_cons_zero, List.getElem?_cons_succ, Option.getD, show Int.toNat 1 = 1 from rfl, args2]
      simp only [e]
      generalize decide (u = v) = E
      cases plA y <;> rfl
    | u :: v :: w :: l =>
      have e : ((Int.ofNat (u :: v :: w :: l).length) == (2 : Int)) = false := by rw [beq_eq_false_iff_ne]; simp; omega
      simp only [e]
      cases plA y <;> rfl
  simp only [h1, decide_false, cond_false, if_false]
  by_cases h2 : y.Kind = 2
  · simp only [h2, decide_true, cond_true, if_true]
    match hl : y.Args with
    | [] => cases plA y <;> rfl
    | [u] =>
      have e := hC u (by rw [hl]; simp)
      have eV : V u = true := by
        rw [hl] at hA
        unfold argsOK at hA
        simp at hA
        exact hA.1
      simp only [List.getD, List.length_cons, List.length_nil, Int.toNat_zero, List.getElem?_cons_zero, Option.getD, args1, zbop, e, hV u eV]
      match u with
      | [] => cases plA y <;> rfl
      | [t] =>
        have e1 : hasC [t] = (t.Factors.length == 0) := by simp [hasC]
        have e2 : isC [t] = (t.Factors.length == 0) := rfl
        rw [e1, e2]
        cases plA y <;> cases (t.Factors.length == 0) <;> cases isU [t] <;> rfl
      | t :: s :: r =>
        simp only [len2]
        cases plA y <;> rfl
    | u :: v :: l =>
      simp only [len2]
      cases plA y <;> rfl
  simp only [h2, decide_false, cond_false, if_false]
  by_cases h3 : y.Kind = 3
  · simp only [h3, decide_true, cond_true, if_true]
    match hl : y.Args with
    | [] => cases plA y <;> rfl
    | [u] =>
      have e := hC u (by rw [hl]; simp)
      simp only [List.getD, List.length_cons, List.length_nil, Int.toNat_zero, List.getElem?_cons_zero, Option.getD, args1]
      simp only [e]
      cases plA y <;> cases hasC u <;> rfl
    | u :: v :: l =>
      simp only [len2]
      cases plA y <;> rfl
  simp only [h3, decide_false, cond_false, if_false]
  by_cases h4 : y.Kind = 4
  · have e10 : decide (Int.ofNat y.Items.length > (1024 : Int)) = false := by simp; omega
    rw [hS _ (by omega)]
    rw [e10]
    simp only [h4, decide_true, cond_true, if_true, cond_false]
    rw [show (Int.ofNat y.Args.length != (0 : Int)) = !(y.Args.length == 0) from congrArg not (nat_i y.Args.length 0), show (Int.ofNat y.Items.length == (0 : Int)) = (y.Items.length == 0) from nat_i y.Items.length 0]
    have e11 : decide (0 < y.Items.length) = !(y.Items.length == 0) := by
      rw [beqn]
      by_cases h : y.Items.length = 0
      · simp [h]
      · have : 0 < y.Items.length := by omega
        simp [h, this]
    rw [e11]
    cases (y.Args.length == 0) <;> cases (y.Items.length == 0) <;> cases fitK y.Func y.Items y.Op y.Bound <;> cases itemsOK V y.Items <;> cases srtW y.Items <;> rfl
  simp only [h4, decide_false, cond_false, if_false]
end
section
variable (V : List Term → Bool) (vat : Atom → Bool)
theorem V_9 (g : Atom → Bool × Bool) (a t10 : List Term) (t11 t12 : Int) (t : Term) {d : Nat} (ht : zky (fineAnn d) t.Factors) (hd : d ≤ 99) (hg : ∀ f ∈ t.Factors, g f.Atom = (true, vat f.Atom)) (n : Nat) (hn : t.Factors.length < n) :
    zuq g n a t10 t11 t12 t.Factors t.Factors.length 0 t = (true, bif okF vat t.Factors then .inr (a, t10, t11, t12) else .inl false) := by
  have hl := ht.1
  exact zg0 (W := zpl g) (z := .inl default) t.Factors.length (fun k => (a, (), t10, t11, t12, t.Factors, (t.Factors.length : Int), (k : Int), ())) (fun _ => (t, ())) (chkF vat t.Factors) (.inl false) (.inr (a, t10, t11, t12))
    (fun k hk H K D => by
      show (zlf g a t10 t11 t12 t.Factors t.Factors.length k t).ev H K D = _
      unfold zlf chkF
      have hgt : decide ((k : Int) > 0) = !decide (k = 0) := by
        by_cases h : k = 0
        · subst h; rfl
        · have : 0 < k := by omega
          simp [h, this]
      simp only [Atom.eta, Wy.ev_i, Wy.ev_k, Wy.ev_h, Wy.ev_bn, Wy.ev_d, tT, hk, idem_eq, hg _ (getD_mem hk), hgt]
      rw [wrap_succ (by omega)]
      have e1 : decide ((t.Factors.getD k default).Exp < 1) = !decide (1 ≤ (t.Factors.getD k default).Exp) := by
        by_cases h : 1 ≤ (t.Factors.getD k default).Exp
        · have : ¬ (t.Factors.getD k default).Exp < 1 := by omega
          simp only [h, this, decide_true, decide_false, Bool.not_true]
        · have : (t.Factors.getD k default).Exp < 1 := by omega
          simp only [h, this, decide_true, decide_false, Bool.not_false]
      rw [e1]
      generalize decide (1 ≤ (t.Factors.getD k default).Exp) = E1
      generalize ((t.Factors.getD k default).Exp != 1) = E2
      generalize ((t.Factors.getD k default).Atom.Kind == 3 || (t.Factors.getD k default).Atom.Kind == 4) = E3
      by_cases h0 : k = 0
      · simp only [h0, decide_true, Bool.not_true, cond_false, Bool.true_or, Bool.and_true]
        cases E1 <;> cases E2 <;> cases E3 <;> cases vat (t.Factors.getD 0 default).Atom <;> rfl
      · have hp : IntKind.i64.wrap ((k : Int) - 1) = ((k - 1 : Nat) : Int) := wrap_pred (by omega) (by omega)
        have hk' : k - 1 < t.Factors.length := by omega
        have hfx : zha (fineAnn d) (t.Factors.getD (k - 1) default).Atom := ht.2 _ (getD_mem hk')
        have e2 : ∀ z : Int, decide (z ≥ 0) = !decide (z < 0) := fun z => by
          by_cases h : z < 0
          · have : ¬ z ≥ 0 := by omega
            simp [h, this]
          · have : z ≥ 0 := by omega
            simp [h, this]
        simp only [h0, hp, tT, hk', zbbm hfx hd, e2, Bool.false_or]
        generalize decide (cmpT (trAtom (t.Factors.getD (k - 1) default).Atom) (trAtom (t.Factors.getD k default).Atom) < 0) = E4
        cases E1 <;> cases E2 <;> cases E3 <;> cases E4 <;> cases vat (t.Factors.getD k default).Atom <;> rfl)
    (fun H K D => by
      show (zlf g a t10 t11 t12 t.Factors t.Factors.length t.Factors.length t).ev H K D = _
      unfold zlf
      simp only [Wy.ev_i, Wy.ev_k, tT, Nat.lt_irrefl]) n hn
theorem V_4 (g : Atom → Bool × Bool) (a : List Term) {d : Nat} (h : fineAnn (d + 1) a) (hd : d ≤ 99) (hg : ∀ t ∈ a, ∀ f ∈ t.Factors, g f.Atom = (true, vat f.Atom)) (n : Nat) (hn : a.length < n) :
    z3i g n a a a.length 0 = (true, bif allN (chkT vat a) a.length 0 then .inr () else .inl false) := by
  have hl := h.1
  exact zg0 (W := zpd g) (z := .inl default) a.length (fun k => (a, a, (a.length : Int), (k : Int), ())) (fun _ => ()) (chkT vat a) (.inl false) (.inr ())
    (fun k hk H K D => by
      show (zli g a a a.length k).ev H K D = _
      unfold zli chkT
      have ht := h.2 _ (getD_mem hk)
      have hgt : decide ((k : Int) > 0) = !decide (k = 0) := by
        by_cases h : k = 0
        · subst h; rfl
        · have : 0 < k := by omega
          simp [h, this]
      simp only [Atom.eta, Wy.ev_i, Wy.ev_k, Wy.ev_h, Wy.ev_bn, Wy.ev_d, tT, hk, hgt]
      rw [V_9 vat g a a a.length k _ ht hd (hg _ (getD_mem hk)) _ (by omega)]
      have e1 : decide ((a.getD k default).Coeff < 1) = !decide (1 ≤ (a.getD k default).Coeff) := by
        by_cases h : 1 ≤ (a.getD k default).Coeff
        · have : ¬ (a.getD k default).Coeff < 1 := by omega
          simp only [h, this, decide_true, decide_false, Bool.not_true]
        · have : (a.getD k default).Coeff < 1 := by omega
          simp only [h, this, decide_true, decide_false, Bool.not_false]
      have e3 : decide ((a.getD k default).Coeff > 1152921504606846976) = !decide ((a.getD k default).Coeff ≤ 1152921504606846976) := by
        by_cases h : (a.getD k default).Coeff ≤ 1152921504606846976
        · have : ¬ (a.getD k default).Coeff > 1152921504606846976 := by omega
          simp only [h, this, decide_true, decide_false, Bool.not_true]
        · have : (a.getD k default).Coeff > 1152921504606846976 := by omega
          simp only [h, this, decide_true, decide_false, Bool.not_false]
      rw [e1, e3]
      generalize decide (1 ≤ (a.getD k default).Coeff) = E1
      generalize decide ((a.getD k default).Coeff ≤ 1152921504606846976) = E2
      by_cases h0 : k = 0
      · subst h0
        simp only [decide_true, Bool.not_true, cond_false, Bool.true_or, Bool.and_true]
        cases okF vat (a.getD 0 default).Factors <;> cases E1 <;> cases E2 <;> try rfl
      · have hp : IntKind.i64.wrap ((k : Int) - 1) = ((k - 1 : Nat) : Int) := wrap_pred (by omega) (by omega)
        have hk' : k - 1 < a.length := by omega
        have hfx : zky (fineAnn d) (a.getD (k - 1) default).Factors := h.2 _ (getD_mem hk')
        have e2 : ∀ z : Int, decide (z ≥ 0) = !decide (z < 0) := fun z => by
          by_cases h : z < 0
          · have : ¬ z ≥ 0 := by omega
            simp [h, this]
          · have : z ≥ 0 := by omega
            simp [h, this]
        simp only [h0, hp, tT, hk', zba1 hfx hd, e2, Bool.false_or]
        generalize decide (cmpL (zco (a.getD (k - 1) default).Factors) (zco (a.getD k default).Factors) < 0) = E4
        cases okF vat (a.getD k default).Factors <;> cases E1 <;> cases E2 <;> cases E4 <;> try rfl
        simp only [cond_true, cond_false, Bool.not_true, isL, getR, Bool.and_self]
        rw [wrap_succ (by omega), decide_eq_false (show ¬ ((k - 1 : Nat) : Int) < 0 by omega)]; rfl)
    (fun H K D => by
      show (zli g a a a.length a.length).ev H K D = _
      unfold zli
      simp only [Wy.ev_i, Wy.ev_k, tT, Nat.lt_irrefl]) n hn
theorem zbri (g : Atom → Bool × Bool) (a : List Term) {d : Nat} (h : fineAnn (d + 1) a) (hd : d ≤ 99) (hs : sizAnn a ≤ 4611686018427387904) (hg : ∀ t ∈ a, ∀ f ∈ t.Factors, g f.Atom = (true, vat f.Atom)) : zo4 g a = (true, vAnn vat a) := by
  unfold zo4 zwj vAnn
  have := V_4 vat g a h hd hg (a.length + a.length + (Int.ofNat a.length).toNat + Int.toNat (0 : Int) + (1 : Nat)) (by omega)
  rw [show Int.ofNat a.length = (a.length : Int) from rfl] at *
  simp only [Wy.fin_i, Wy.fin_k, Wy.fin_bn, zbpu h (by omega) hs, this, cond_true]
  cases withA a <;> cases allN (chkT vat a) a.length 0 <;> rfl
theorem RV_10 (g : Atom → Bool × Bool) (a : List Term) (i : Int) (t : Term) {d : Nat} (ht : zky (fineAnn d) t.Factors) (hd : d ≤ 99) (hg : ∀ f ∈ t.Factors, g f.Atom = (true, vat f.Atom)) (hk : ∀ x, vat x = true → 0 ≤ x.Kind ∧ x.Kind ≤ 4) (n : Nat) (hn : t.Factors.length < n) :
    z1c g n a i 0 t = (true, bif okF vat t.Factors then .inr (a, i) else .inl false) := by
  have hl := ht.1
  exact zg0 (W := zt5 g) (z := .inl default) t.Factors.length (fun k => (a, i, (), (k : Int), ())) (fun _ => (t, ())) (chkF vat t.Factors) (.inl false) (.inr (a, i))
    (fun k hk1 H K D => by
      show (zp8 g a i k t).ev H K D = _
      unfold zp8 chkF
      have hgt : decide ((k : Int) > 0) = !decide (k = 0) := by
        by_cases h : k = 0
        · subst h; rfl
        · have : 0 < k := by omega
          simp [h, this]
      simp only [Atom.eta, Wy.ev_i, Wy.ev_k, Wy.ev_h, Wy.ev_bn, Wy.ev_d, tT, hk1, hg _ (getD_mem hk1), hgt]
      rw [wrap_succ (by omega)]
      have hk2 := hk (t.Factors.getD k default).Atom
      have e1 : decide ((t.Factors.getD k default).Exp < 1) = !decide (1 ≤ (t.Factors.getD k default).Exp) := by
        by_cases h : 1 ≤ (t.Factors.getD k default).Exp
        · have : ¬ (t.Factors.getD k default).Exp < 1 := by omega
          simp only [h, this, decide_true, decide_false, Bool.not_true]
        · have : (t.Factors.getD k default).Exp < 1 := by omega
          simp only [h, this, decide_true, decide_false, Bool.not_false]
      rw [e1]
      by_cases hx1 : 1 ≤ (t.Factors.getD k default).Exp
      rotate_left
      · simp only [hx1, decide_false, Bool.not_false, cond_true, Bool.false_and, cond_false]
      cases hv : vat (t.Factors.getD k default).Atom with
      | false =>
        rw [Bool.and_false]
        cases decide (1 ≤ (t.Factors.getD k default).Exp) <;> cases decide ((t.Factors.getD k default).Exp > 1) <;> cases decide ((t.Factors.getD k default).Atom.Kind ≥ 3) <;> rfl
      | true =>
      obtain ⟨k1, k2⟩ := hk2 hv
      have e5 : ((t.Factors.getD k default).Atom.Kind == 3 || (t.Factors.getD k default).Atom.Kind == 4) = decide ((t.Factors.getD k default).Atom.Kind ≥ 3) := by
        rw [beqd, beqd, ← Bool.decide_or]
        congr 1
        apply propext; omega
      have e6 : ((t.Factors.getD k default).Exp != 1) = decide ((t.Factors.getD k default).Exp > 1) := by
        rw [bne0, ← decide_not]
        congr 1
        apply propext; omega
      rw [e5, e6]
      simp only [hx1, decide_true, Bool.not_true, cond_false, Bool.true_and]
      generalize decide ((t.Factors.getD k default).Exp > 1) = E2
      generalize decide ((t.Factors.getD k default).Atom.Kind ≥ 3) = E3
      by_cases h0 : k = 0
      · simp only [h0, decide_true, Bool.not_true, cond_false, Bool.true_or, Bool.and_true]
        cases E2 <;> cases E3 <;> rfl
      · have hp : IntKind.i64.wrap ((k : Int) - 1) = ((k - 1 : Nat) : Int) := wrap_pred (by omega) (by omega)
        have hk' : k - 1 < t.Factors.length := by omega
        have hfx : zha (fineAnn d) (t.Factors.getD (k - 1) default).Atom := ht.2 _ (getD_mem hk')
        have e2 : ∀ z : Int, decide (z ≥ 0) = !decide (z < 0) := fun z => by
          by_cases h : z < 0
          · have : ¬ z ≥ 0 := by omega
            simp [h, this]
          · have : z ≥ 0 := by omega
            simp [h, this]
        simp only [h0, hp, tT, hk', zbjg hfx hd, e2, Bool.false_or]
        generalize decide (cmpT (trAtom (t.Factors.getD (k - 1) default).Atom) (trAtom (t.Factors.getD k default).Atom) < 0) = E4
        cases E2 <;> cases E3 <;> cases E4 <;> rfl)
    (fun H K D => by
      show (zp8 g a i t.Factors.length t).ev H K D = _
      unfold zp8
      simp only [Wy.ev_i, Wy.ev_k, tT, Nat.lt_irrefl]) n hn
theorem RV_4 (g : Atom → Bool × Bool) (a : List Term) {d : Nat} (h : fineAnn (d + 1) a) (hd : d ≤ 99) (hg : ∀ t ∈ a, ∀ f ∈ t.Factors, g f.Atom = (true, vat f.Atom)) (hk : ∀ x, vat x = true → 0 ≤ x.Kind ∧ x.Kind ≤ 4) (n : Nat) (hn : a.length < n) :
    zbec g n a 0 = (true, bif allN (chkT vat a) a.length 0 then .inr () else .inl false) := by
  have hl := h.1
  exact zg0 (W := zv5 g) (z := .inl default) a.length (fun k => (a, (k : Int), ())) (fun _ => ()) (chkT vat a) (.inl false) (.inr ())
    (fun k hk1 H K D => by
      show (zrp g a k).ev H K D = _
      unfold zrp chkT
      have ht := h.2 _ (getD_mem hk1)
      have hgt : decide ((k : Int) > 0) = !decide (k = 0) := by
        by_cases h : k = 0
        · subst h; rfl
        · have : 0 < k := by omega
          simp [h, this]
      simp only [Atom.eta, Wy.ev_i, Wy.ev_k, Wy.ev_h, Wy.ev_bn, Wy.ev_d, tT, hk1, hgt]
      rw [RV_10 vat g a k _ ht hd (hg _ (getD_mem hk1)) hk _ (by omega)]
      have e1 : decide ((a.getD k default).Coeff < 1) = !decide (1 ≤ (a.getD k default).Coeff) := by
        by_cases h : 1 ≤ (a.getD k default).Coeff
        · have : ¬ (a.getD k default).Coeff < 1 := by omega
          simp only [h, this, decide_true, decide_false, Bool.not_true]
        · have : (a.getD k default).Coeff < 1 := by omega
          simp only [h, this, decide_true, decide_false, Bool.not_false]
      have e3 : decide ((a.getD k default).Coeff > 1152921504606846976) = !decide ((a.getD k default).Coeff ≤ 1152921504606846976) := by
        by_cases h : (a.getD k default).Coeff ≤ 1152921504606846976
        · have : ¬ (a.getD k default).Coeff > 1152921504606846976 := by omega
          simp only [h, this, decide_true, decide_false, Bool.not_true]
        · have : (a.getD k default).Coeff > 1152921504606846976 := by omega
          simp only [h, this, decide_true, decide_false, Bool.not_false]
      rw [e1, e3]
      generalize decide (1 ≤ (a.getD k default).Coeff) = E1
      generalize decide ((a.getD k default).Coeff ≤ 1152921504606846976) = E2
      by_cases h0 : k = 0
      · subst h0
        simp only [decide_true, Bool.not_true, cond_false, Bool.true_or, Bool.and_true]
        cases okF vat (a.getD 0 default).Factors <;> cases E1 <;> cases E2 <;> try rfl
      · have hp : IntKind.i64.wrap ((k : Int) - 1) = ((k - 1 : Nat) : Int) := wrap_pred (by omega) (by omega)
        have hk' : k - 1 < a.length := by omega
        have hfx : zky (fineAnn d) (a.getD (k - 1) default).Factors := h.2 _ (getD_mem hk')
        have e2 : ∀ z : Int, decide (z ≥ 0) = !decide (z < 0) := fun z => by
          by_cases h : z < 0
          · have : ¬ z ≥ 0 := by omega
            simp [h, this]
          · have : z ≥ 0 := by omega
            simp [h, this]
        simp only [h0, hp, tT, hk', zbff hfx hd, e2, Bool.false_or]
        generalize decide (cmpL (zco (a.getD (k - 1) default).Factors) (zco (a.getD k default).Factors) < 0) = E4
        cases okF vat (a.getD k default).Factors <;> cases E1 <;> cases E2 <;> cases E4 <;> try rfl
        simp only [cond_true, cond_false, Bool.not_true, isL, getR, Bool.and_self]
        rw [wrap_succ (by omega), decide_eq_false (show ¬ ((k - 1 : Nat) : Int) < 0 by omega)]; rfl)
    (fun H K D => by
      show (zrp g a a.length).ev H K D = _
      unfold zrp
      simp only [Wy.ev_i, Wy.ev_k, tT, Nat.lt_irrefl]) n hn
theorem zbq8 (g : Atom → Bool × Bool) (a : List Term) {d : Nat} (h : fineAnn (d + 1) a) (hd : d ≤ 99) (hs : sizAnn a ≤ 4611686018427387904) (hg : withA a = true → ∀ t ∈ a, ∀ f ∈ t.Factors, g f.Atom = (true, vat f.Atom)) (hk : ∀ x, vat x = true → 0 ≤ x.Kind ∧ x.Kind ≤ 4) : zw8 g a = (true, vAnn vat a) := by
  unfold zw8 z48 vAnn
  rw [Wy.fin_bn, Fits_eq h (by omega) hs]
  cases hw : withA a with
  | false => rfl
  | true =>
    have := RV_4 vat g a h hd (hg hw) hk ((a.length + Int.toNat (0 : Int) + (1 : Nat)) + szTs a) (by omega)
    simp only [Wy.fin_i, Wy.fin_k, Wy.fin_bn, this, cond_true]
    cases allN (chkT vat a) a.length 0 <;> rfl
end
theorem zbm5 {l : List (List Term)} {a : List Term} (h : a ∈ l) : sizAnn a ≤ sizAnns l := by
  induction l with
  | nil => cases h
  | cons b r ih =>
    rw [zrs]
    rcases List.mem_cons.1 h with rfl | h
    · omega
    · have := ih h; omega
theorem zbls {l : List Weighted} {w : Weighted} (h : w ∈ l) : sizAnn w.Ann ≤ zec l := by
  induction l with
  | nil => cases h
  | cons b r ih =>
    rw [zmy]
    rcases List.mem_cons.1 h with rfl | h
    · omega
    · have := ih h; omega
theorem zbqs {m : Nat} {a : List Term} (h : validD m a = true) : isB a = isU a := by
  cases m with
  | zero => cases h
  | succ m =>
  match a with
  | [] => rfl
  | [t] =>
    simp only [validD, vAnn, Bool.and_eq_true] at h
    have h1 := ztj.1 h.2 0 (by omega) (by simp)
    simp only [chkT, Bool.and_eq_true] at h1
    have h2 := h1.2
    obtain ⟨c, fs⟩ := t
    match fs with
    | [] => rfl
    | [f] =>
      have h3 := ztj.1 h2 0 (by omega) (by simp)
      simp only [chkF, Bool.and_eq_true] at h3
      have h4 := zbjr h3.2
      simp only [List.getD_cons_zero] at h4
      show (c == 1 && (f.Exp == 1 && decide (2 ≤ f.Atom.Kind))) = (c == 1 && (f.Exp == 1 && (f.Atom.Kind == 2 || f.Atom.Kind == 3 || f.Atom.Kind == 4)))
      have e : decide (2 ≤ f.Atom.Kind) = (f.Atom.Kind == 2 || f.Atom.Kind == 3 || f.Atom.Kind == 4) := by
        rw [beqd, beqd, beqd, ← Bool.decide_or, ← Bool.decide_or]
        congr 1
        apply propext; omega
      rw [e]
    | f :: f' :: r => rfl
  | t :: u :: r => rfl
theorem IG_v1 (g) (l : List (List Term)) : zcq g l = IG (fun (_ : Unit) x => g x) (l.length + (Int.ofNat l.length).toNat + Int.toNat (0 : Int) + (1 : Nat)) () l := rfl
theorem IG_v2 (g) (l : List Weighted) : zc5 g l = IG (fun (_ : Unit) x => g x) (l.length + (Int.ofNat l.length).toNat + Int.toNat (0 : Int) + (1 : Nat)) () l := rfl
theorem zbgj : ∀ n,
    (∀ d m a, fineAnn d a → 10 * d ≤ n → d ≤ m → d ≤ 100 → sizAnn a ≤ 4611686018427387904 → zll n a = (true, validD m a)) ∧
    (∀ d m x, zha (fineAnn d) x → 10 * d + 9 ≤ n → d ≤ m → d ≤ 99 → sizAtom x ≤ 4611686018427387904 → zkx n x = (true, vAtom (validD m) x)) ∧
    (∀ d m a, fineAnn d a → 10 * d + 6 ≤ n → d ≤ m → d ≤ 99 → sizAnn a ≤ 4611686018427387904 → zea n a = (true, !(validD m a && !(a.length == 0)))) ∧
    (∀ d m (w : Weighted), fineAnn d w.Ann → 10 * d + 6 ≤ n → d ≤ m → d ≤ 99 → sizAnn w.Ann ≤ 4611686018427387904 → zeb n w = (true, !(validD m w.Ann && !(w.Ann.length == 0)))) ∧
    (∀ d m (l : List (List Term)), l.length ≤ 1000000 → (∀ a ∈ l, fineAnn d a ∧ sizAnn a ≤ 4611686018427387904) → 10 * d + 7 ≤ n → d ≤ m → d ≤ 99 → zb2 n l = (true, ixf (fun a => !(validD m a && !(a.length == 0))) l 0)) ∧
    (∀ d m (l : List (List Term)), l.length ≤ 1000000 → (∀ a ∈ l, fineAnn d a ∧ sizAnn a ≤ 4611686018427387904) → 10 * d + 8 ≤ n → d ≤ m → d ≤ 99 → zbz n l = (true, !argsOK (validD m) l)) ∧
    (∀ d m (l : List Weighted), l.length ≤ 1000000 → (∀ a ∈ l, fineAnn d a.Ann ∧ sizAnn a.Ann ≤ 4611686018427387904) → 10 * d + 7 ≤ n → d ≤ m → d ≤ 99 → zb9 n l = (true, ixf (fun a => !(validD m a.Ann && !(a.Ann.length == 0))) l 0)) ∧
    (∀ d m (l : List Weighted), l.length ≤ 1000000 → (∀ a ∈ l, fineAnn d a.Ann ∧ sizAnn a.Ann ≤ 4611686018427387904) → 10 * d + 8 ≤ n → d ≤ m → d ≤ 99 → zb5 n l = (true, !itemsOK (validD m) l))
  | 0 => by
    refine ⟨?_, ?_, ?_, ?_, ?_, ?_, ?_, ?_⟩
    · intro d m a h hd; have : d = 0 := by omega
      subst this; exact h.elim
    all_goals (intros; omega)
  | n + 1 => by
    obtain ⟨h1, h2, h3, h4, h5, h6, h7, h8⟩ := zbgj n
    refine ⟨?_, ?_, ?_, ?_, ?_, ?_, ?_, ?_⟩
    · intro d m a h hd hm hd2 hs
      cases d with
      | zero => exact h.elim
      | succ d =>
        cases m with
        | zero => omega
        | succ m =>
          rw [zbio]
          exact zbri _ _ a h (by omega) hs fun t ht f hf => h2 d m f.Atom ((h.2 t ht).2 f hf) (by omega) (by omega) (by omega) (by
            have := siz_sub ht hf; rw [zn9]; omega)
    · intro d m x h hd hm hd2 hs
      rw [zbc8]
      rw [zn9] at hs
      exact zbo7 _ _ _ _ _ x h hd2 (h6 d m _ h.1.1 (fun a ha => ⟨h.2.1 a ha, by have := zbm5 ha; omega⟩) (by omega) hm hd2)
        (h8 d m _ h.1.2.1 (fun a ha => ⟨(h.2.2 a ha).2, by have := zbls ha; omega⟩) (by omega) hm hd2)
    · intro d m a h hd hm hd2 hs
      rw [z8o]
      unfold zlo zor
      rw [Wy.fin_bn, h1 d m a h (by omega) hm (by omega) hs]
      simp only [cond_true, Wy.fin_i, Wy.fin_k, show (Int.ofNat a.length == (0 : Int)) = (a.length == 0) from nat_i a.length 0]
      cases validD m a <;> simp
    · intro d m a h hd hm hd2 hs
      rw [z8b]
      unfold zls zoy
      rw [Wy.fin_bn, h1 d m a.Ann h (by omega) hm (by omega) hs]
      simp only [cond_true, Wy.fin_i, Wy.fin_k, show (Int.ofNat a.Ann.length == (0 : Int)) = (a.Ann.length == 0) from nat_i a.Ann.length 0]
      cases validD m a.Ann <;> simp
    · intro d m l hl h hd hm hd2
      rw [zoe, IG_v1]
      exact IG_eq _ _ _ _ _ (by omega) (fun x hx => h3 d m x (h x hx).1 (by omega) hm hd2 (h x hx).2) (by omega)
    · intro d m l hl h hd hm hd2
      rw [zna]
      unfold zch zdi
      rw [ztg (h5 d m l hl h (by omega) hm hd2)]
      simp [argsOK, List.all_eq_not_any_not]
    · intro d m l hl h hd hm hd2
      rw [zp3, IG_v2]
      exact IG_eq _ _ _ _ _ (by omega) (fun x hx => h4 d m x (h x hx).1 (by omega) hm hd2 (h x hx).2) (by omega)
    · intro d m l hl h hd hm hd2
      rw [zoz]
      unfold zcu zdv
      rw [ztg (h7 d m l hl h (by omega) hm hd2)]
      simp [itemsOK, List.all_eq_not_any_not]
theorem zbrc {a : List Term} (h : withA a = true) {t : Term} (ht : t ∈ a) {f : Factor} (hf : f ∈ t.Factors) : f.Atom.Items.length ≤ 1024 ∧ f.Exp ≤ 64 ∧ t.Factors.length ≤ 64 := by
  simp only [withA, Bool.and_eq_true, List.all_eq_true] at h
  have := h.2 t ht
  simp only [withF, Bool.not_eq_true', Bool.or_eq_false_iff, decide_eq_false_iff_not, List.any_eq_false] at this
  have h2 := this.2 f hf
  simp at h2
  omega
theorem zbn9 : ∀ n,
    (∀ d m a, fineAnn d a → 3 * d ≤ n → d ≤ m → d ≤ 100 → sizAnn a ≤ 4611686018427387904 → zxd n a = (true, validD m a)) ∧
    (∀ d m x, zha (fineAnn d) x → 3 * d + 2 ≤ n → d ≤ m → d ≤ 99 → sizAtom x ≤ 4611686018427387904 → x.Items.length ≤ 1024 → zp7 n x = (true, vAtom (validD m) x))
  | 0 => by
    refine ⟨?_, ?_⟩
    · intro d m a h hd; have : d = 0 := by omega
      subst this; exact h.elim
    · intros; omega
  | n + 1 => by
    obtain ⟨h1, h2⟩ := zbn9 n
    refine ⟨?_, ?_⟩
    · intro d m a h hd hm hd2 hs
      cases d with
      | zero => exact h.elim
      | succ d =>
        cases m with
        | zero => omega
        | succ m =>
          rw [zbnu]
          exact zbq8 _ _ a h (by omega) hs (fun hw t ht f hf => h2 d m f.Atom ((h.2 t ht).2 f hf) (by omega) (by omega) (by omega) (by
            have := siz_sub ht hf; rw [zn9]; omega) (zbrc hw ht hf).1) fun x hx => zbjr hx
    · intro d m x h hd hm hd2 hs h10
      rw [zbjp]
      rw [zn9] at hs
      exact zbou _ _ x h hd2 h10 (fun a ha => zbqs ha) (fun a ha => h1 d m a (h.2.1 a ha) (by omega) hm (by omega) (by have := zbm5 ha; omega))
        fun a ha => h1 d m a.Ann (h.2.2 a ha).2 (by omega) hm (by omega) (by have := zbls ha; omega)
def validA (a : List Term) : Bool := validD 100 a
theorem zbr0 {d : Nat} {a : List Term} (h : fineAnn d a) (hd : d ≤ 100) (hs : sizAnn a ≤ 4611686018427387904) : zc6 a = (true, validA a) := (zbgj 1000).1 d 100 a h (by omega) hd hd hs
theorem zbrh {d : Nat} {a : List Term} (h : fineAnn d a) (hd : d ≤ 100) (hs : sizAnn a ≤ 4611686018427387904) : zbgx a = (true, validA a) := (zbn9 1000).1 d 100 a h (by omega) hd hd hs

theorem zbne {τ : Type} [Inhabited τ] {l : List τ} {x : τ} (h : x ∈ l) : ∃ i, i < l.length ∧ l.getD i default = x := by
  obtain ⟨i, hi, e⟩ := List.mem_iff_getElem.1 h
  exact ⟨i, hi, by rw [List.getD_eq_getElem?_getD, List.getElem?_eq_getElem hi]; exact e⟩
theorem zbpw {vat : Atom → Bool} {a : List Term} (h : vAnn vat a = true) : withA a = true := by
  simp only [vAnn, Bool.and_eq_true] at h; exact h.1
theorem zbr3 {vat : Atom → Bool} {a : List Term} (h : vAnn vat a = true) {t : Term} (ht : t ∈ a) : (1 ≤ t.Coeff ∧ t.Coeff ≤ 1152921504606846976) ∧ okF vat t.Factors = true := by
  simp only [vAnn, Bool.and_eq_true] at h
  obtain ⟨i, hi, rfl⟩ := zbne ht
  have := ztj.1 h.2 i (by omega) (by omega)
  simp only [chkT, Bool.and_eq_true, decide_eq_true_eq] at this
  exact ⟨this.1.1, this.2⟩
theorem zbrj {vat : Atom → Bool} {fs : List Factor} (h : okF vat fs = true) {f : Factor} (hf : f ∈ fs) : (1 ≤ f.Exp ∧ (f.Atom.Kind = 3 ∨ f.Atom.Kind = 4 → f.Exp = 1)) ∧ vat f.Atom = true := by
  obtain ⟨i, hi, rfl⟩ := zbne hf
  have := ztj.1 h i (by omega) (by omega)
  simp only [chkF, Bool.and_eq_true, decide_eq_true_eq] at this
  refine ⟨⟨this.1.1.1, fun hk => ?_⟩, this.2⟩
  have h2 := this.1.1.2
  rcases hk with hk | hk
  · rw [hk] at h2; simpa using h2
  · rw [hk] at h2; simpa using h2
theorem bz_size {b : Value} (h : bz b = true) : b = ⟨0, 0, ByteArray.mk #[]⟩ := by
  unfold bz at h
  rw [zblr] at h
  simp only [Bool.and_eq_true, beq_iff_eq, decide_eq_true_eq, and_true] at h
  obtain ⟨k, i, t⟩ := b
  simp only at h
  obtain ⟨rfl, rfl, rfl⟩ := h
  rfl
theorem bz_text {b : Value} (h : bz b = true) : b.Text.size ≤ 255 := by rw [bz_size h]; decide
theorem zbgc {v : Value} (h : valV v = true) : v.Text.size ≤ 255 := by
  simp only [valV, Bool.or_eq_true, Bool.and_eq_true, beq_iff_eq, decide_eq_true_eq] at h
  omega
theorem zbjs {x : Atom} (h : plA x = true) : x.Func = 0 ∧ x.Items = [] ∧ x.Op = 0 ∧ x.Bound = ⟨0, 0, ByteArray.mk #[]⟩ := by
  simp only [plA, Bool.and_eq_true, beq_iff_eq] at h
  exact ⟨h.1.1.1, List.length_eq_zero_iff.1 h.1.1.2, h.1.2, bz_size h.2⟩
theorem rz_spec {r : RowID} (h : rz r = true) : r = ⟨0, 0⟩ := by
  simp only [rz, Bool.and_eq_true, beq_iff_eq, and_true] at h
  obtain ⟨t, s⟩ := r
  simp only at h
  obtain ⟨rfl, rfl⟩ := h; rfl
inductive VA (V : List Term → Bool) : Atom → Prop
  | var (r : RowID) (h : rowOK r = true) : VA V ⟨0, r, [], 0, [], 0, ⟨0, 0, ByteArray.mk #[]⟩⟩
  | mon (a b : List Term) (ha : V a = true) (hb : V b = true) (ha0 : a ≠ []) (hb0 : b ≠ []) (h : a ≠ b) : VA V ⟨1, ⟨0, 0⟩, [a, b], 0, [], 0, ⟨0, 0, ByteArray.mk #[]⟩⟩
  | del (a : List Term) (ha : V a = true) (ha0 : a ≠ []) (h : isC a = false) (h' : isU a = false) : VA V ⟨2, ⟨0, 0⟩, [a], 0, [], 0, ⟨0, 0, ByteArray.mk #[]⟩⟩
  | abs (a : List Term) (ha : V a = true) (ha0 : a ≠ []) (h : hasC a = false) : VA V ⟨3, ⟨0, 0⟩, [a], 0, [], 0, ⟨0, 0, ByteArray.mk #[]⟩⟩
  | tst (f : Int) (l : List Weighted) (o : Int) (b : Value) (hl : l ≠ []) (hi : ∀ w ∈ l, V w.Ann = true ∧ w.Ann ≠ []) (hs : srtW l = true) (hf : fitK f l o b = true) : VA V ⟨4, ⟨0, 0⟩, [], f, l, o, b⟩
theorem zblx {V : List Term → Bool} {x : Atom} : vAtom V x = true ↔ VA V x := by
  constructor
  · intro h
    have hk := zbjr h
    obtain ⟨k, r, l, f, its, o, b⟩ := x
    simp only at hk
    unfold vAtom at h
    simp only [Bool.and_eq_true] at h
    obtain ⟨h1, h2⟩ := h
    have ha : ∀ a ∈ l, V a = true ∧ a ≠ [] := fun a ha => by
      have := List.all_eq_true.1 h1 a ha
      simp only [Bool.and_eq_true, Bool.not_eq_true', beq_eq_false_iff_ne] at this
      exact ⟨this.1, fun e => this.2 (by rw [e]; rfl)⟩
    by_cases h0 : k = 0
    · subst h0
      simp only [if_true, Bool.and_eq_true, beq_iff_eq] at h2
      obtain ⟨e1, e2, e3, e4⟩ := zbjs h2.1.1
      simp only at e1 e2 e3 e4
      subst e1 e2 e3 e4
      obtain rfl : l = [] := List.length_eq_zero_iff.1 h2.2
      exact .var r h2.1.2
    simp only [h0, if_false, Bool.and_eq_true] at h2
    obtain ⟨hr, h2⟩ := h2
    have hr' := rz_spec hr
    subst hr'
    by_cases h0' : k = 1
    · subst h0'
      simp only [if_true, Bool.and_eq_true] at h2
      obtain ⟨e1, e2, e3, e4⟩ := zbjs h2.1
      simp only at e1 e2 e3 e4
      subst e1 e2 e3 e4
      match l, h2.2, ha with
      | [a, b], h3, ha => exact .mon a b (ha a (by simp)).1 (ha b (by simp)).1 (ha a (by simp)).2 (ha b (by simp)).2 (by simpa [args2] using h3)
    simp only [h0', if_false] at h2
    by_cases h2' : k = 2
    · subst h2'
      simp only [if_true, Bool.and_eq_true] at h2
      obtain ⟨e1, e2, e3, e4⟩ := zbjs h2.1
      simp only at e1 e2 e3 e4
      subst e1 e2 e3 e4
      match l, h2.2, ha with
      | [a], h3, ha =>
        simp only [args1, Bool.and_eq_true, Bool.not_eq_true'] at h3
        exact .del a (ha a (by simp)).1 (ha a (by simp)).2 h3.1 h3.2
    simp only [h2', if_false] at h2
    by_cases h3' : k = 3
    · subst h3'
      simp only [if_true, Bool.and_eq_true] at h2
      obtain ⟨e1, e2, e3, e4⟩ := zbjs h2.1
      simp only at e1 e2 e3 e4
      subst e1 e2 e3 e4
      match l, h2.2, ha with
      | [a], h3, ha =>
        simp only [args1, Bool.not_eq_true'] at h3
        exact .abs a (ha a (by simp)).1 (ha a (by simp)).2 h3
    simp only [h3', if_false] at h2
    have h4' : k = 4 := by omega
    subst h4'
    simp only [if_true, Bool.and_eq_true, beq_iff_eq, decide_eq_true_eq] at h2
    obtain ⟨⟨⟨⟨h3, h4⟩, h5⟩, h6⟩, h7⟩ := h2
    obtain rfl : l = [] := List.length_eq_zero_iff.1 h3
    exact .tst f its o b (fun e => by rw [e] at h4; simp at h4) (fun w hw => by
      have := List.all_eq_true.1 h5 w hw
      simp only [Bool.and_eq_true, Bool.not_eq_true', beq_eq_false_iff_ne] at this
      exact ⟨this.1, fun e => this.2 (by rw [e]; rfl)⟩) h6 h7
  · intro h
    have ne : ∀ a : List Term, a ≠ [] → (a.length == 0) = false := fun a ha => by
      rw [beq_eq_false_iff_ne]; exact fun e => ha (List.length_eq_zero_iff.1 e)
    cases h with
    | var r h => simp [vAtom, argsOK, plA, bz, h]
    | mon a b ha hb ha0 hb0 h => simp [vAtom, argsOK, plA, bz, rz, args2, ha, hb, ha0, hb0, h]
    | del a ha ha0 h h' => simp [vAtom, argsOK, plA, bz, rz, args1, ha, ha0, h, h']
    | abs a ha ha0 h => simp [vAtom, argsOK, plA, bz, rz, args1, ha, ha0, h]
    | tst f l o b hl hi hs hf =>
      have h1 : itemsOK V l = true := List.all_eq_true.2 fun w hw => by rw [(hi w hw).1, ne _ (hi w hw).2]; rfl
      have h2 : 0 < l.length := by
        cases l with
        | nil => exact absurd rfl hl
        | cons x r => simp
      simp [vAtom, argsOK, rz, h1, hs, hf, h2]
theorem zboq {a : List Term} (h : withA a = true) : a.length ≤ 512 ∧ nesAnn a ≤ 8 ∧ sizAnn a ≤ 4096 ∧ ∀ t ∈ a, t.Factors.length ≤ 64 ∧ ∀ f ∈ t.Factors, f.Exp ≤ 64 ∧ f.Atom.Items.length ≤ 1024 := by
  simp only [withA, Bool.and_eq_true, List.all_eq_true, decide_eq_true_eq] at h
  refine ⟨h.1.1.1, h.1.1.2, h.1.2, fun t ht => ?_⟩
  have := h.2 t ht
  simp only [withF, Bool.not_eq_true', Bool.or_eq_false_iff, decide_eq_false_iff_not, List.any_eq_false] at this
  refine ⟨by omega, fun f hf => ?_⟩
  have h2 := this.2 f hf
  simp at h2
  omega
theorem zbrg {a : List Term} {t : Term} (h : t ∈ a) : zeu t.Factors ≤ nesAnn a := by
  induction a with
  | nil => cases h
  | cons b r ih =>
    rw [zbg1]
    rcases List.mem_cons.1 h with rfl | h
    · omega
    · have := ih h; omega
theorem zbph {l : List Factor} {f : Factor} (h : f ∈ l) : nesAtom f.Atom ≤ zeu l := by
  induction l with
  | nil => cases h
  | cons b r ih =>
    rw [z5j]
    rcases List.mem_cons.1 h with rfl | h
    · omega
    · have := ih h; omega
theorem zbgy {l : List (List Term)} {a : List Term} (h : a ∈ l) : nesAnn a ≤ nesAnns l := by
  induction l with
  | nil => cases h
  | cons b r ih =>
    rw [z6b]
    rcases List.mem_cons.1 h with rfl | h
    · omega
    · have := ih h; omega
theorem zbqv {l : List Weighted} {w : Weighted} (h : w ∈ l) : nesAnn w.Ann ≤ zl9 l := by
  induction l with
  | nil => cases h
  | cons b r ih =>
    rw [z2v]
    rcases List.mem_cons.1 h with rfl | h
    · omega
    · have := ih h; omega
theorem zbi7 {f : Int} {l : List Weighted} {o : Int} {b : Value} (h : fitK f l o b = true) : (0 ≤ f ∧ f ≤ 3 ∧ 5 ≤ o ∧ o ≤ 10) ∧ valV b = true ∧ ∀ w ∈ l, valV w.Value = true ∧ w.Value.Kind = b.Kind := by
  simp only [fitK, Bool.and_eq_true, List.all_eq_true, decide_eq_true_eq] at h
  obtain ⟨⟨⟨⟨⟨⟨h1, h2⟩, h3⟩, h4⟩, h5⟩, h6⟩, h7⟩ := h
  refine ⟨⟨h1, h2, h3, h4⟩, h5, fun w hw => ?_⟩
  have := h7 w hw
  simp only [fitI, Bool.and_eq_true, beq_iff_eq] at this
  exact this.1
theorem zbn8 : ∀ (m : Nat) (a : List Term), validD m a = true → fineAnn (nesAnn a + 1) a
  | 0, a, h => by cases h
  | m + 1, a, h => by
    have hw := zboq (zbpw h)
    refine ⟨by omega, fun t ht => ?_⟩
    obtain ⟨_, hok⟩ := zbr3 h ht
    obtain ⟨h1, h2⟩ := hw.2.2.2 t ht
    refine ⟨by omega, fun f hf => ?_⟩
    have hv := zblx.1 (zbrj hok hf).2
    have hn : nesAtom f.Atom ≤ nesAnn a := Nat.le_trans (zbph hf) (zbrg ht)
    have h3 := (h2 f hf).2
    generalize f.Atom = x at hv hn h3
    rw [z4z] at hn
    have ih : ∀ b, validD m b = true → nesAnn b + 1 ≤ nesAnn a → fineAnn (nesAnn a) b := fun b hb hl => (zbn8 m b hb).mono hl
    cases hv with
    | var r h => exact ⟨⟨by simp, by simp, by show (ByteArray.mk #[]).size ≤ _; decide⟩, fun a ha => (by cases ha), fun w hw => (by cases hw)⟩
    | mon b c hb hc _ _ _ =>
      simp only at hn
      refine ⟨⟨by simp, by simp, by show (ByteArray.mk #[]).size ≤ _; decide⟩, fun y hy => ?_, fun w hw => (by cases hw)⟩
      have := zbgy hy
      simp only at this
      simp only [List.mem_cons, List.not_mem_nil, or_false] at hy
      rcases hy with rfl | rfl
      · exact ih _ hb (by simp at hn; omega)
      · exact ih _ hc (by simp at hn; omega)
    | del b hb _ _ _ =>
      refine ⟨⟨by simp, by simp, by show (ByteArray.mk #[]).size ≤ _; decide⟩, fun y hy => ?_, fun w hw => (by cases hw)⟩
      have := zbgy hy
      simp only at this
      simp only [List.mem_cons, List.not_mem_nil, or_false] at hy
      subst hy
      exact ih _ hb (by simp at hn; omega)
    | abs b hb _ _ =>
      refine ⟨⟨by simp, by simp, by show (ByteArray.mk #[]).size ≤ _; decide⟩, fun y hy => ?_, fun w hw => (by cases hw)⟩
      have := zbgy hy
      simp only at this
      simp only [List.mem_cons, List.not_mem_nil, or_false] at hy
      subst hy
      exact ih _ hb (by simp at hn; omega)
    | tst fn l o b hl hi hs hf =>
      obtain ⟨_, hb, hit⟩ := zbi7 hf
      refine ⟨⟨by simp, by simp only at h3 ⊢; omega, by have := zbgc hb; simp only; omega⟩, fun y hy => (by cases hy), fun w hw => ⟨by have := zbgc (hit w hw).1; omega, ?_⟩⟩
      have := zbqv hw
      simp only at this
      exact ih _ (hi w hw).1 (by simp at hn; omega)
theorem zbi6 {m : Nat} {a : List Term} (h : validD m a = true) : fineAnn 9 a ∧ sizAnn a ≤ 4096 ∧ a.length ≤ 512 := by
  cases m with
  | zero => cases h
  | succ m =>
  have hw := zboq (zbpw h)
  exact ⟨(zbn8 _ a h).mono (by omega), hw.2.2.1, hw.1⟩
theorem zbpt {d m m' : Nat} {a : List Term} (h : fineAnn d a) (hd : d ≤ 100) (h1 : d ≤ m) (h2 : d ≤ m') (hs : sizAnn a ≤ 4611686018427387904) : validD m a = validD m' a := by
  have e1 := (zbgj 1000).1 d m a h (by omega) h1 hd hs
  have e2 := (zbgj 1000).1 d m' a h (by omega) h2 hd hs
  rw [e1] at e2
  exact (Prod.mk.injEq _ _ _ _ ▸ e2).2
theorem zbsj {m : Nat} {a : List Term} (h : validD m a = true) (hm : 9 ≤ m) : validA a = true := by
  obtain ⟨h1, h2, h3⟩ := zbi6 h
  rw [← h]; exact zbpt h1 (by omega) (by omega) hm (by omega)
theorem zbsb {m : Nat} {a : List Term} (h : validA a = true) (hm : 9 ≤ m) : validD m a = true := by
  obtain ⟨h1, h2, h3⟩ := zbi6 h
  rw [← h]; exact zbpt h1 (by omega) hm (by omega) (by omega)
theorem VA.imp {V V' : List Term → Bool} (hV : ∀ a, V a = true → V' a = true) {x : Atom} (h : VA V x) : VA V' x := by
  cases h with
  | var r h => exact .var r h
  | mon a b ha hb ha0 hb0 h => exact .mon a b (hV a ha) (hV b hb) ha0 hb0 h
  | del a ha ha0 h h' => exact .del a (hV a ha) ha0 h h'
  | abs a ha ha0 h => exact .abs a (hV a ha) ha0 h
  | tst f l o b hl hi hs hf => exact .tst f l o b hl (fun w hw => ⟨hV _ (hi w hw).1, (hi w hw).2⟩) hs hf
def vatA (x : Atom) : Bool := vAtom validA x
theorem vat_eq {m : Nat} (hm : 9 ≤ m) : vAtom (validD m) = vatA := by
  funext x
  rw [Bool.eq_iff_iff]
  unfold vatA
  rw [zblx, zblx]
  exact ⟨VA.imp fun a h => zbsj h hm, VA.imp fun a h => zbsb h hm⟩
theorem zbss (a : List Term) : validA a = vAnn vatA a := by
  show vAnn (vAtom (validD 99)) a = _
  rw [vat_eq (by omega)]

theorem zbnq {τ : Type} [Inhabited τ] {l : List τ} {i : Nat} (h : i < l.length) : l.set i (l.getD i default) = l := by
  rw [List.getD_eq_getElem?_getD, List.getElem?_eq_getElem h]; simp
section
variable (g : List Term → Bool × List Term) (gx : Atom → Bool × Atom)
theorem cp_7 (t8 : List Term) (t9 t10 : Int) (out : List Term) (t : Term) (l : List Factor) (hl : l.length ≤ 1000000) (hg : ∀ f ∈ l, gx f.Atom = (true, f.Atom)) (n : Nat) (hn : l.length < n) :
    z2p gx n t8 t9 t10 l.length 0 out t l = (true, (t8, t9, t10, out, t, l)) := by
  have := zg0 (W := zn5 gx) (z := default) l.length (fun i => ((), (), (), t8, t9, t10, (l.length : Int), (i : Int), ())) (fun _ => (out, t, l, ())) (fun _ => true) default (t8, t9, t10, out, t, l)
    (fun i hi H K D => by
      show (zk1 gx t8 t9 t10 l.length i out t l).ev H K D = _
      unfold zk1
      simp only [Atom.eta, Wy.ev_i, Wy.ev_k, Wy.ev_h, Wy.ev_bn, Wy.ev_d, tT, hi, hg _ (getD_mem hi)]
      rw [wrap_succ (by omega)]
      have : (l.set i (⟨(l.getD i default).Atom, (l.getD i default).Exp⟩ : Factor)) = l := zbnq hi
      rw [this])
    (fun H K D => by
      show (zk1 gx t8 t9 t10 l.length l.length out t l).ev H K D = _
      unfold zk1
      simp only [Wy.ev_i, Wy.ev_k, tT, Nat.lt_irrefl]) n hn
  rw [show allN (fun _ => true) l.length 0 = true from ztj.2 fun _ _ _ => rfl] at this
  exact this
theorem cp_3 (a : List Term) (hl : a.length ≤ 1000000) (hg : ∀ t ∈ a, t.Factors.length ≤ 1000000 ∧ ∀ f ∈ t.Factors, gx f.Atom = (true, f.Atom)) (n : Nat) (hn : a.length < n) :
    z2n gx n a a.length 0 [] = (true, a) := by
  have hreach : reach = 70368744177664 := rfl
  have := zg0 (W := zn8 gx) (z := default) a.length (fun i => ((), a, (a.length : Int), (i : Int), ())) (fun i => (a.take i, ())) (fun _ => true) default a
    (fun i hi H K D => by
      show (zkt gx a a.length i (a.take i)).ev H K D = _
      unfold zkt zfe
      obtain ⟨h1, h2⟩ := hg _ (getD_mem hi)
      have hb : decide ((a.getD i default).Factors.length * 128 ≤ reach) = true := by simp only [decide_eq_true_eq]; omega
      simp only [Wy.ev_i, Wy.ev_k, Wy.ev_h, Wy.ev_bn, Wy.ev_d, tT, hi, hb]
      rw [cp_7 gx a a.length i (a.take i) _ _ h1 h2 _ (by omega)]
      have hb2 : decide (((a.take i).length + 1) * 32 ≤ reach) = true := by simp only [decide_eq_true_eq, List.length_take]; omega
      simp only [cond_true, List.length_singleton, hb2]
      rw [wrap_succ (by omega), take_succ_getD hi])
    (fun H K D => by
      show (zkt gx a a.length a.length (a.take a.length)).ev H K D = _
      unfold zkt
      simp only [Wy.ev_i, Wy.ev_k, tT, Nat.lt_irrefl, List.take_length]) n hn
  rw [show allN (fun _ => true) a.length 0 = true from ztj.2 fun _ _ _ => rfl] at this
  exact this
end

section
variable (g : List Term → Bool × List Term)
theorem cpa_3 (l : List (List Term)) (hl : l.length ≤ 1000000) (hg : ∀ a ∈ l, g a = (true, a)) (n : Nat) (hn : l.length < n) (x0 x1 x2 x3 : Int) (x4 : List Weighted) (x5 x6 x7 : Int) (x8 : ByteArray) (t0 t1 t2 t3 t4 t5 t6 : Int) (t7 : ByteArray) :
    zwo g n l.length 0 x0 x1 x2 x3 x4 x5 x6 x7 x8 t0 t1 t2 t3 t4 t5 t6 t7 l = (true, (x0, x1, x2, x3, x4, x5, x6, x7, x8, t0, t1, t2, t3, t4, t5, t6, t7, l)) := by
  have := zg0 (W := zk6 g) (z := default) l.length (fun i => ((), (), (l.length : Int), (i : Int), ())) (fun _ => ((x0, x1, x2, (), x3, x4, x5, x6, x7, x8, ()), (t0, t1, t2, (), t3, (), t4, t5, t6, t7, ()), l, ())) (fun _ => true) default (x0, x1, x2, x3, x4, x5, x6, x7, x8, t0, t1, t2, t3, t4, t5, t6, t7, l)
    (fun i hi H K D => by
      show (zgf g l.length i x0 x1 x2 x3 x4 x5 x6 x7 x8 t0 t1 t2 t3 t4 t5 t6 t7 l).ev H K D = _
      unfold zgf
      simp only [Wy.ev_i, Wy.ev_k, Wy.ev_h, Wy.ev_bn, Wy.ev_d, tT, hi, hg _ (getD_mem hi)]
      rw [wrap_succ (by omega), zbnq hi])
    (fun H K D => by
      show (zgf g l.length l.length x0 x1 x2 x3 x4 x5 x6 x7 x8 t0 t1 t2 t3 t4 t5 t6 t7 l).ev H K D = _
      unfold zgf
      simp only [Wy.ev_i, Wy.ev_k, tT, Nat.lt_irrefl]) n hn
  rw [show allN (fun _ => true) l.length 0 = true from ztj.2 fun _ _ _ => rfl] at this
  exact this
theorem cpa_9 (l : List Weighted) (hl : l.length ≤ 1000000) (hg : ∀ a ∈ l, g a.Ann = (true, a.Ann)) (n : Nat) (hn : l.length < n) (x0 x1 x2 x3 x4 x5 x6 : Int) (x7 : ByteArray) (t0 t1 t2 t3 t4 t5 t6 : Int) (t7 : ByteArray) (b2 : List (List Term)) :
    zxe g n l.length 0 x0 x1 x2 x3 x4 x5 x6 x7 t0 t1 t2 t3 t4 t5 t6 t7 b2 l = (true, (x0, x1, x2, x3, x4, x5, x6, x7, t0, t1, t2, t3, t4, t5, t6, t7, b2, l)) := by
  have := zg0 (W := zk4 g) (z := default) l.length (fun i => ((), (), (l.length : Int), (i : Int), ())) (fun _ => ((x0, x1, x2, (), x3, (), x4, x5, x6, x7, ()), (t0, t1, t2, (), t3, (), t4, t5, t6, t7, ()), b2, l, ())) (fun _ => true) default (x0, x1, x2, x3, x4, x5, x6, x7, t0, t1, t2, t3, t4, t5, t6, t7, b2, l)
    (fun i hi H K D => by
      show (zgk g l.length i x0 x1 x2 x3 x4 x5 x6 x7 t0 t1 t2 t3 t4 t5 t6 t7 b2 l).ev H K D = _
      unfold zgk
      simp only [Wy.ev_i, Wy.ev_k, Wy.ev_h, Wy.ev_bn, Wy.ev_d, tT, hi, hg _ (getD_mem hi)]
      have : l.set i (⟨(l.getD i default).Value, (l.getD i default).Ann⟩ : Weighted) = l := zbnq hi
      rw [wrap_succ (by omega), this])
    (fun H K D => by
      show (zgk g l.length l.length x0 x1 x2 x3 x4 x5 x6 x7 t0 t1 t2 t3 t4 t5 t6 t7 b2 l).ev H K D = _
      unfold zgk
      simp only [Wy.ev_i, Wy.ev_k, tT, Nat.lt_irrefl]) n hn
  rw [show allN (fun _ => true) l.length 0 = true from ztj.2 fun _ _ _ => rfl] at this
  exact this
theorem zbon (x : Atom) (h1 : x.Args.length ≤ 1000000) (h2 : x.Items.length ≤ 1000000) (hg : ∀ a ∈ x.Args, g a = (true, a)) (hgi : ∀ w ∈ x.Items, g w.Ann = (true, w.Ann)) : zjs g x = (true, x) := by
  have hreach : reach = 70368744177664 := rfl
  unfold zjs zqh zdq zen
  have e1 : ∀ k : Nat, k ≤ 1000 → decide (x.Args.length * k ≤ reach) = true := fun k hk => by
    have := Nat.mul_le_mul h1 hk
    simp only [decide_eq_true_eq]; omega
  have e2 : ∀ k : Nat, k ≤ 1000 → decide (x.Items.length * k ≤ reach) = true := fun k hk => by
    have := Nat.mul_le_mul h2 hk
    simp only [decide_eq_true_eq]; omega
  simp only [Wy.fin_bn, Wy.fin_k, e1 _ (by omega : 24 ≤ 1000), e2 _ (by omega : 56 ≤ 1000), Int.ofNat_eq_natCast, cond_true]
  rw [cpa_3 g _ h1 hg _ (by omega)]
  simp only [cond_true, e2 _ (by omega : 56 ≤ 1000)]
  rw [cpa_9 g _ h2 hgi _ (by omega)]
  simp only [cond_true]
  cases x; rfl
theorem zbq2 (gx : Atom → Bool × Atom) (a : List Term) (hl : a.length ≤ 1000000) (hg : ∀ t ∈ a, t.Factors.length ≤ 1000000 ∧ ∀ f ∈ t.Factors, gx f.Atom = (true, f.Atom)) : znt gx a = (true, a) := by
  unfold znt zux
  have := cp_3 gx a hl hg (a.length + (Int.ofNat a.length).toNat + Int.toNat (0 : Int) + (0 : Nat) + (1 : Nat)) (by omega)
  rw [show Int.ofNat a.length = (a.length : Int) from rfl] at *
  rw [Wy.fin_bn, this]; rfl
end
theorem zbor : ∀ n,
    (∀ d a, fineAnn d a → 2 * d ≤ n → znx n a = (true, a)) ∧
    (∀ d x, zha (fineAnn d) x → 2 * d + 1 ≤ n → zjv n x = (true, x))
  | 0 => by
    refine ⟨fun d a h hd => ?_, fun d x h hd => by omega⟩
    have : d = 0 := by omega
    subst this; exact h.elim
  | n + 1 => by
    obtain ⟨h1, h2⟩ := zbor n
    refine ⟨fun d a h hd => ?_, fun d x h hd => ?_⟩
    · cases d with
      | zero => exact h.elim
      | succ d =>
        rw [zbgu]
        exact zbq2 _ a h.1 fun t ht => ⟨(h.2 t ht).1, fun f hf => h2 d _ ((h.2 t ht).2 f hf) (by omega)⟩
    · rw [zbbd]
      exact zbon _ x h.1.1 h.1.2.1 (fun a ha => h1 d a (h.2.1 a ha) (by omega)) fun w hw => h1 d _ (h.2.2 w hw).2 (by omega)
theorem zbp1 {d : Nat} {a : List Term} (h : fineAnn d a) (hd : d ≤ 100) : zg1 a = (true, a) := (zbor 1000).1 d a h (by omega)

def fitR (a : List Term) : List Term × Int := bif withA a then (a, 0) else ([], 6)
theorem zbrs {d : Nat} {a : List Term} (h : fineAnn d a) (hd : d ≤ 100) (hs : sizAnn a ≤ 4611686018427387904) : zeh a = (true, fitR a) := by
  unfold zeh zv8 fitR
  simp only [Wy.fin_bn, Wy.fin_i, Wy.fin_k, zbpu h hd hs, zbp1 h hd, cond_true]
  cases withA a <;> rfl
theorem fit_eq {d : Nat} {a : List Term} (h : fineAnn d a) (hd : d ≤ 100) (hs : sizAnn a ≤ 4611686018427387904) : z9c a = (true, fitR a) := by
  unfold z9c zbgv fitR
  simp only [Wy.fin_bn, Wy.fin_i, Wy.fin_k, Fits_eq h hd hs, cond_true]
  cases withA a <;> rfl
def oneA (x : Atom) : List Term := [⟨1, [⟨x, 1⟩]⟩]
theorem zbr7 (x : Atom) : (zfl x).2 = oneA x := by
  unfold zfl zxk
  rw [Atom.eta]; rfl
theorem Atom_eq (x : Atom) : (z4y x).2 = oneA x := by
  unfold z4y zbd5
  rw [Atom.eta]; rfl
theorem zbr6 {d : Nat} {x : Atom} (h : zha (fineAnn d) x) : fineAnn (d + 1) (oneA x) := by
  refine ⟨by simp [oneA], fun t ht => ?_⟩
  simp only [oneA, List.mem_singleton] at ht
  subst ht
  refine ⟨by simp, fun f hf => ?_⟩
  simp only [List.mem_singleton] at hf
  subst hf; exact h
theorem zbsq (x : Atom) : sizAnn (oneA x) = 2 + sizAtom x := by
  rw [oneA, ztm, zbn0, zkn, z8e]
  simp only [List.length_singleton]; omega

section
variable {α β ρ τ : Type} [Inhabited τ]
theorem take_tw (p : τ → Bool) : ∀ l : List τ, l.take (l.takeWhile p).length = l.takeWhile p
  | [] => rfl
  | x :: r => by
    rw [List.takeWhile_cons]
    cases p x with
    | true => simp [take_tw p r]
    | false => simp
theorem drop_tw (p : τ → Bool) : ∀ l : List τ, l.drop (l.takeWhile p).length = l.dropWhile p
  | [] => rfl
  | x :: r => by
    rw [List.takeWhile_cons, List.dropWhile_cons]
    cases p x with
    | true => simp [drop_tw p r]
    | false => simp
theorem tw_le (p : τ → Bool) (l : List τ) : (l.takeWhile p).length ≤ l.length := (List.takeWhile_prefix p).length_le
theorem zbpq {W : α → β → Wy α β ρ} {z : ρ} (l : List τ) (p : τ → Bool) (ex : Nat → α) (ey : Nat → β) (res : Nat → ρ)
    (h : ∀ i, i < l.length → ∀ (H : α → β → Bool × ρ) K D, (W (ex i) (ey i)).ev H K D = bif p (l.getD i default) then H (ex (i + 1)) (ey (i + 1)) else K (res i))
    (he : ∀ (H : α → β → Bool × ρ) K D, (W (ex l.length) (ey l.length)).ev H K D = K (res l.length)) :
    ∀ n i, l.length < i + n → i ≤ l.length → iterW W z n (ex i) (ey i) = (true, res (i + ((l.drop i).takeWhile p).length))
  | 0, i, h1, h2 => by omega
  | n + 1, i, h1, h2 => by
    show (W (ex i) (ey i)).ev (iterW W z n) (fun r => (true, r)) (false, z) = _
    by_cases hi : i < l.length
    · rw [h i hi, drop_lt hi, List.takeWhile_cons]
      cases hp : p (l.getD i default) with
      | false => simp
      | true =>
        rw [cond_true, zbpq l p ex ey res h he n (i + 1) (by omega) (by omega)]
        simp only [if_true, List.length_cons]
        congr 2; omega
    · have : i = l.length := by omega
      subst this
      rw [he, drop_ge hi]; rfl
theorem zbrk {W : α → β → Wy α β ρ} {z : ρ} (l : List τ) (p : τ → Bool) (ex : Nat → α) (ey : Nat → β) (res : Nat → ρ)
    (h : ∀ i, i < l.length → ∀ (H : α → β → Bool × ρ) K D, (W (ex i) (ey i)).ev H K D = bif p (l.getD i default) then H (ex (i + 1)) (ey (i + 1)) else K (res i))
    (he : ∀ (H : α → β → Bool × ρ) K D, (W (ex l.length) (ey l.length)).ev H K D = K (res l.length)) (n : Nat) (hn : l.length < n) :
    iterW W z n (ex 0) (ey 0) = (true, res (l.takeWhile p).length) := by
  have := zbpq (z := z) l p ex ey res h he n 0 (by omega) (by omega)
  simpa using this
def rins (p : τ → Bool) (x : τ) (l : List τ) : List τ := l.takeWhile p ++ x :: l.dropWhile p
theorem zbpj (p : τ → Bool) (x y : τ) (r : List τ) : rins p x (y :: r) = bif p y then y :: rins p x r else x :: y :: r := by
  unfold rins
  rw [List.takeWhile_cons, List.dropWhile_cons]
  cases p y <;> simp
theorem zbab (p : τ → Bool) (x : τ) : ∀ l : List τ, (rins p x l).Perm (x :: l)
  | [] => .refl _
  | y :: r => by
    rw [zbpj]
    cases p y
    · exact .refl _
    · exact ((zbab p x r).cons y).trans (.swap x y r)
abbrev Srt (key : τ → TT) (l : List τ) : Prop := l.Pairwise fun x y => cmpT (key x) (key y) ≤ 0
theorem zbqn (key : τ → TT) (x : τ) : ∀ l : List τ, Srt key l → Srt key (rins (fun y => decide (cmpT (key y) (key x) ≤ 0)) x l)
  | [], _ => by simp [rins]
  | y :: r, h => by
    have h := List.pairwise_cons.1 h
    rw [zbpj]
    by_cases hp : cmpT (key y) (key x) ≤ 0
    · rw [decide_eq_true hp]
      refine List.pairwise_cons.2 ⟨fun z hz => ?_, zbqn key x r h.2⟩
      rcases List.mem_cons.1 ((zbab _ x r).mem_iff.1 hz) with rfl | hz
      · exact hp
      · exact h.1 z hz
    · rw [decide_eq_false hp]
      have hxy : cmpT (key x) (key y) ≤ 0 := by have := cmpT_anti (key x) (key y); omega
      refine List.pairwise_cons.2 ⟨fun z hz => ?_, List.pairwise_cons.2 h⟩
      rcases List.mem_cons.1 hz with rfl | hz
      · exact hxy
      · exact cmpT_trans _ _ _ hxy (h.1 z hz)
end
theorem sl_take {τ : Type} (l : List τ) (k : Nat) : List.take (k - Int.toNat 0) (List.drop (Int.toNat 0) l) = l.take k := by simp
theorem sl_drop {τ : Type} (l : List τ) (k : Nat) : List.take ((Int.ofNat l.length).toNat - k) (List.drop k l) = l.drop k := by
  simp only [Int.ofNat_eq_natCast, Int.toNat_natCast]
  rw [List.take_of_length_le (by simp)]
theorem zbqe (n : Nat) : (n == 0) = !decide (0 < n) := by cases n <;> simp

def hasA (w : Weighted) : Bool := decide (0 < w.Ann.length)
def itemsA (l : List Weighted) : List Weighted := isort zbf (l.filter hasA)
theorem zbln {d : Nat} {l : List Weighted} (hl : l.length ≤ 1000000) (h : ∀ w ∈ l, fineAnn d w.Ann) (hd : d ≤ 99) : SortOK zbf l := by
  have e : ∀ x ∈ l, ∀ y, zbf x y = (true, cmpT (trItem x) (trItem y)) := fun x hx y => zpn (h x hx) hd y
  refine ⟨by omega, fun x hx y _ => by rw [e x hx], fun x hx => ?_, fun x hx y hy z hz h1 h2 => ?_, fun x hx y hy z hz h1 h2 => ?_, fun x hx y hy h1 h2 => ?_⟩
  · rw [e x hx, cmpT_self]; omega
  · rw [e x hx] at h1 ⊢; rw [e y hy] at h2
    have h3 := cmpT_trans _ _ _ (show cmpT (trItem x) (trItem y) ≤ 0 by simp only at h1; omega) (show cmpT (trItem y) (trItem z) ≤ 0 by simp only at h2; omega)
    simp only at h1 h2 ⊢
    by_cases e0 : cmpT (trItem x) (trItem z) = 0
    · have := cmpT_eq _ _ e0
      rw [← this, cmpT_anti (trItem x) (trItem y)] at h2
      omega
    · omega
  · rw [e x hx] at h1 ⊢; rw [e y hy] at h2
    simp only at h1 h2 ⊢
    have a1 := cmpT_anti (trItem x) (trItem y)
    have a2 := cmpT_anti (trItem y) (trItem z)
    have a3 := cmpT_anti (trItem x) (trItem z)
    have := cmpT_trans (trItem z) (trItem y) (trItem x) (by omega) (by omega)
    omega
  · rw [e x hx] at h1; rw [e y hy] at h2
    simp only at h1 h2
    have a1 := cmpT_anti (trItem x) (trItem y)
    exact zbol _ _ (cmpT_eq _ _ (by omega))
theorem Items_3 {d : Nat} (l : List Weighted) (hl : l.length ≤ 1000000) (h : ∀ w ∈ l, fineAnn d w.Ann) (hd : d ≤ 99) (n : Nat) (hn : l.length < n) : z7d n l l.length 0 [] = (true, l.filter hasA) := by
  have hreach : reach = 70368744177664 := rfl
  have hfl : ∀ i, (List.filter hasA (l.take i)).length ≤ 1000000 := fun i => Nat.le_trans (List.length_filter_le _ _) (Nat.le_trans (by simp; omega) hl)
  have := zg0 (W := zr3) (z := default) l.length (fun i => ((), l, (l.length : Int), (i : Int), ())) (fun i => ((l.take i).filter hasA, ())) (fun _ => true) default (l.filter hasA)
    (fun i hi H K D => by
      show (znn l l.length i ((l.take i).filter hasA)).ev H K D = _
      unfold znn
      have hb2 : decide (((List.filter hasA (l.take i)).length + 1) * 56 ≤ reach) = true := by have := hfl i; simp only [decide_eq_true_eq]; omega
      have hgt : decide (((l.getD i default).Ann.length : Int) > 0) = hasA (l.getD i default) := gt_nat _ 0
      simp only [Wy.ev_i, Wy.ev_k, Wy.ev_h, Wy.ev_bn, Wy.ev_d, tT, hi, zbp1 (h _ (getD_mem hi)) (by omega : d ≤ 100), hgt, List.length_singleton, hb2]
      rw [wrap_succ (by omega), take_succ_getD hi, List.filter_append, List.filter_cons]
      cases hasA (l.getD i default) with
      | true => simp
      | false => simp)
    (fun H K D => by
      show (znn l l.length l.length ((l.take l.length).filter hasA)).ev H K D = _
      unfold znn
      simp only [Wy.ev_i, Wy.ev_k, tT, Nat.lt_irrefl, List.take_length]) n hn
  rw [show allN (fun _ => true) l.length 0 = true from ztj.2 fun _ _ _ => rfl] at this
  exact this
theorem zbqg {d : Nat} (l : List Weighted) (hl : l.length ≤ 1000000) (h : ∀ w ∈ l, fineAnn d w.Ann) (hd : d ≤ 99) (h20 : (l.filter hasA).length < 20) : zn1 l = (true, itemsA l) := by
  unfold zn1 zzm zbl itemsA
  have := Items_3 l hl h hd (l.length + (Int.ofNat l.length).toNat + Int.toNat (0 : Int) + (0 : Nat) + (1 : Nat)) (by omega)
  rw [show Int.ofNat l.length = (l.length : Int) from rfl] at *
  have ok : SortOK zbf (l.filter hasA) := zbln (d := d) (by omega) (fun w hw => h w (List.mem_filter.1 hw).1) hd
  rw [Wy.fin_bn, this]
  simp only [Wy.fin_bn, Wy.fin_k, cond_true, decide_eq_true ok, decide_eq_true h20, Bool.and_self]
def rItem (w : Weighted) (out : List Weighted) : List Weighted := bif hasA w then rins (fun y => decide (cmpT (trItem y) (trItem w) ≤ 0)) w out else out
theorem zbsi {d : Nat} (l : List Weighted) (i : Nat) (hi : i < l.length) (hl : l.length ≤ 1000000) (out : List Weighted) (ho : out.length ≤ 1000000) (h : ∀ w ∈ out, fineAnn d w.Ann) (hd : d ≤ 99) (n : Nat) (hn : out.length < n) :
    zbiw n l i 0 out = (true, (l, (i : Int), (((out.takeWhile fun y => decide (cmpT (trItem y) (trItem (l.getD i default)) ≤ 0)).length : Nat) : Int), out)) := by
  exact zbrk (W := zz8) (z := default) out (fun y => decide (cmpT (trItem y) (trItem (l.getD i default)) ≤ 0)) (fun k => (l, (), (i : Int), (k : Int), ())) (fun _ => (out, ())) (fun k => (l, (i : Int), (k : Int), out))
    (fun k hk H K D => by
      show (zu3 l i k out).ev H K D = _
      unfold zu3
      have e1 : (decide ((k : Int) ≤ ((k + 1 : Nat) : Int)) && decide (((k + 1 : Nat) : Int) ≤ Int.ofNat out.length)) = true := by simp; try omega
      have e2 : (decide ((i : Int) ≤ ((i + 1 : Nat) : Int)) && decide (((i + 1 : Nat) : Int) ≤ Int.ofNat l.length)) = true := by simp; try omega
      have e3 : decide ((k : Int) < Int.ofNat out.length) = true := by simp [hk]
      simp only [Wy.ev_i, Wy.ev_k, Wy.ev_h, Wy.ev_bn, Wy.ev_d, wrap_succ (show k < 4611686018427387904 by omega), wrap_succ (show i < 4611686018427387904 by omega), e1, e2, e3, le0_nat, Bool.true_and, cond_true, Int.toNat_natCast, show k + 1 - k = 1 by omega, show i + 1 - i = 1 by omega, take1 _ _ hi, take1 _ _ hk]
      rw [zuj (d := d) (by simp) (fun w hw => by
        rw [List.mem_singleton] at hw; subst hw; exact h _ (getD_mem hk)) hd, zod, zod]
      simp only [List.map, cmpL1, cond_true])
    (fun H K D => by
      show (zu3 l i out.length out).ev H K D = _
      unfold zu3
      have e3 : decide ((out.length : Int) < Int.ofNat out.length) = false := by simp
      simp only [Wy.ev_i, Wy.ev_k, e3, cond_false]) n hn
theorem zbr2 (w : Weighted) (out : List Weighted) : (rItem w out).length ≤ out.length + 1 := by
  unfold rItem
  cases hasA w with
  | false => simp
  | true => simp only [cond_true]; rw [(zbab _ w out).length_eq]; simp
theorem zbr9 {w y : Weighted} {out : List Weighted} (h : y ∈ rItem w out) : y = w ∨ y ∈ out := by
  unfold rItem at h
  cases hb : hasA w with
  | false => rw [hb] at h; exact .inr h
  | true => rw [hb] at h; exact List.mem_cons.1 ((zbab _ w out).mem_iff.1 h)
theorem zbsr {d : Nat} (l : List Weighted) (hl : l.length ≤ 1000000) (h : ∀ w ∈ l, fineAnn d w.Ann) (hd : d ≤ 99) (n : Nat) (hn : l.length < n) : zbiy n l 0 [] = (true, l.foldl (fun out w => rItem w out) []) := by
  have hreach : reach = 70368744177664 := rfl
  have := iter_list (W := zz3) (z := default) (l := l) (fun i (out : List Weighted) => (l, (), (i : Int), ())) (fun _ out => (out, ())) (fun w out => .inl (rItem w out)) (fun out => out) (fun i out => out.length ≤ i ∧ ∀ w ∈ out, fineAnn d w.Ann)
    (fun i out hi hI => .inl ⟨_, rfl, ⟨by have := zbr2 (l.getD i default) out; omega, fun w hw => by
        rcases zbr9 hw with rfl | hw
        · exact h _ (getD_mem hi)
        · exact hI.2 w hw⟩, fun H K D => by
      show (zu6 l i out).ev H K D = _
      unfold zu6
      have e0 : ((l.getD i default).Ann.length == 0) = !hasA (l.getD i default) := zbqe _
      have e3 : decide ((i : Int) < Int.ofNat l.length) = true := by simp [hi]
      simp only [Wy.ev_i, Wy.ev_k, Wy.ev_h, Wy.ev_bn, Wy.ev_d, e3, le0_nat, Bool.and_self, cond_true, Int.toNat_natCast, show (Int.ofNat (l.getD i default).Ann.length == (0 : Int)) = ((l.getD i default).Ann.length == 0) from nat_i _ 0, e0]
      rw [zbsi l i hi hl out (by omega) hI.2 hd _ (by omega)]
      simp only [cond_true, sl_take, sl_drop, List.nil_append, Int.toNat_natCast, e3, le0_nat, Bool.and_self, Int.le_refl, decide_true, Bool.true_and, Bool.and_true]
      have q1 := tw_le (fun y => decide (cmpT (trItem y) (trItem (l.getD i default)) ≤ 0)) out
      have q2 : decide (((out.takeWhile fun y => decide (cmpT (trItem y) (trItem (l.getD i default)) ≤ 0)).length : Int) ≤ Int.ofNat out.length) = true := by simp only [decide_eq_true_eq, Int.ofNat_eq_natCast]; omega
      have hb1 : decide ((0 + (out.take (out.takeWhile fun y => decide (cmpT (trItem y) (trItem (l.getD i default)) ≤ 0)).length).length) * 56 ≤ reach) = true := by simp only [decide_eq_true_eq, List.length_take]; omega
      have hb2 : decide (((out.take (out.takeWhile fun y => decide (cmpT (trItem y) (trItem (l.getD i default)) ≤ 0)).length).length + [l.getD i default].length) * 56 ≤ reach) = true := by simp only [decide_eq_true_eq, List.length_take, List.length_singleton]; omega
      have hb3 : decide (((out.take (out.takeWhile fun y => decide (cmpT (trItem y) (trItem (l.getD i default)) ≤ 0)).length ++ [l.getD i default]).length + (out.drop (out.takeWhile fun y => decide (cmpT (trItem y) (trItem (l.getD i default)) ≤ 0)).length).length) * 56 ≤ reach) = true := by simp only [decide_eq_true_eq, List.length_append, List.length_take, List.length_singleton, List.length_drop]; omega
      simp only [q2, hb1, hb2, hb3, cond_true]
      rw [wrap_succ (by omega), take_tw, drop_tw]
      unfold rItem rins
      cases hasA (l.getD i default) <;> simp⟩)
    (fun out hI H K D => by
      show (zu6 l l.length out).ev H K D = _
      unfold zu6
      have e3 : decide ((l.length : Int) < Int.ofNat l.length) = false := by simp
      simp only [Wy.ev_i, Wy.ev_k, e3, cond_false]) n 0 [] (by omega) (by omega) ⟨by simp, fun w hw => by cases hw⟩
  rw [List.drop_zero, runL_fold] at this
  exact this
theorem zboy : ∀ (l out : List Weighted), (l.foldl (fun out w => rItem w out) out).Perm (l.filter hasA ++ out) ∧ (Srt trItem out → Srt trItem (l.foldl (fun out w => rItem w out) out))
  | [], out => ⟨.refl _, fun h => h⟩
  | w :: r, out => by
    obtain ⟨h1, h2⟩ := zboy r (rItem w out)
    rw [List.foldl_cons, List.filter_cons]
    cases hb : hasA w with
    | false =>
      have e : rItem w out = out := by unfold rItem; rw [hb]; rfl
      rw [e] at h1 h2 ⊢
      exact ⟨by simpa using h1, h2⟩
    | true =>
      have e : rItem w out = rins (fun y => decide (cmpT (trItem y) (trItem w) ≤ 0)) w out := by unfold rItem; rw [hb]; rfl
      rw [e] at h1 h2 ⊢
      refine ⟨?_, fun h => h2 (zbqn trItem w out h)⟩
      simp only [if_true, List.cons_append]
      exact h1.trans (((zbab _ w out).append_left _).trans List.perm_middle)
theorem zbpk {d : Nat} (l : List Weighted) (hl : l.length ≤ 1000000) (h : ∀ w ∈ l, fineAnn d w.Ann) (hd : d ≤ 99) : zxh l = (true, itemsA l) := by
  unfold zxh zbbh
  rw [Wy.fin_bn, zbsr l hl h hd _ (by omega)]
  simp only [cond_true, Wy.fin_k]
  congr 1
  obtain ⟨h1, h2⟩ := zboy l []
  rw [List.append_nil] at h1
  have hm : ∀ w ∈ l.filter hasA, fineAnn d w.Ann := fun w hw => h w (List.mem_filter.1 hw).1
  refine (zbln (d := d) (Nat.le_trans (List.length_filter_le _ _) hl) hm hd).unique h1 ?_
  refine (h2 .nil).imp_of_mem fun {x y} hx hy hxy => ?_
  rw [zpn (hm y (h1.mem_iff.1 hy)) hd, cmpT_anti (trItem x) (trItem y)]
  simp only; omega

def mats (op sign : Int) : Bool := bif op == 5 then sign == 0 else bif op == 6 then sign != 0 else bif op == 7 then decide (sign < 0) else bif op == 8 then decide (sign ≤ 0) else bif op == 9 then decide (sign > 0) else decide (sign ≥ 0)
theorem zbso (op sign : Int) : zrl op sign = (true, mats op sign) := by
  unfold zrl zzq mats
  simp only [Wy.fin_i, Wy.fin_k]
  cases op == 5 <;> cases op == 6 <;> cases op == 7 <;> cases op == 8 <;> cases op == 9 <;> rfl
theorem zbru {op sign : Int} (h1 : 5 ≤ op) (h2 : op ≤ 10) : zw9 op sign = (true, mats op sign) := by
  unfold zw9 z4s mats
  simp only [Wy.fin_i, Wy.fin_k, beqd]
  by_cases a1 : op = 5
  · simp [a1]
  by_cases a2 : op = 6
  · simp [a2]
  by_cases a3 : op = 7
  · simp [a3]
  by_cases a4 : op = 8
  · simp [a4]
  by_cases a5 : op = 9
  · simp [a5]
  have a6 : op = 10 := by omega
  simp [a6]
def tstA (fn : Int) (l : List Weighted) (op : Int) (b : Value) : Atom := ⟨4, ⟨0, 0⟩, [], fn, l, op, b⟩
def testR (fn : Int) (items : List Weighted) (op : Int) (b : Value) : List Term × Int :=
  bif !(fitK fn items op b && items.all fun w => validA w.Ann) then ([], 1) else
  bif decide (0 < (itemsA items).length) then fitR (oneA (tstA fn (itemsA items) op b)) else
  bif fn == 0 && mats op (cmpI 0 b.Int) then ([⟨1, []⟩], 0) else ([], 0)
theorem zbi3 {l : List Weighted} {w : Weighted} (h : w ∈ itemsA l) : w ∈ l ∧ w.Ann ≠ [] := by
  have := (isort_perm _ _).mem_iff.1 h
  obtain ⟨h1, h2⟩ := List.mem_filter.1 this
  refine ⟨h1, fun e => ?_⟩
  rw [hasA, e] at h2; simp at h2
theorem zbot (l : List Weighted) : (itemsA l).length = (l.filter hasA).length := (isort_perm _ _).length_eq
theorem zblw {B : Nat} : ∀ l : List Weighted, (∀ w ∈ l, sizAnn w.Ann ≤ B) → zec l ≤ l.length * (B + 1)
  | [], _ => by rw [zbl2]; simp
  | w :: r, h => by
    rw [zmy, List.length_cons]
    have h1 := h w (by simp)
    have h2 := zblw r fun w hw => h w (by simp [hw])
    rw [Nat.add_mul]; omega
theorem zbey {fn : Int} {l : List Weighted} {op : Int} {b : Value} (hl : l.length ≤ 1000000) (hf : fitK fn l op b = true) (hv : (l.all fun w => validA w.Ann) = true) : fineAnn 10 (oneA (tstA fn (itemsA l) op b)) ∧ sizAnn (oneA (tstA fn (itemsA l) op b)) ≤ 4611686018427387904 := by
  obtain ⟨_, hb, hit⟩ := zbi7 hf
  have hvv : ∀ w ∈ l, validA w.Ann = true := fun w hw => List.all_eq_true.1 hv w hw
  have hlen : (itemsA l).length ≤ 1000000 := by rw [zbot]; exact Nat.le_trans (List.length_filter_le _ _) hl
  constructor
  · refine zbr6 ⟨⟨by simp [tstA], hlen, by have := zbgc hb; simp only [tstA]; omega⟩, fun y hy => (by cases hy), fun w hw => ?_⟩
    have hm := (zbi3 hw).1
    exact ⟨by have := zbgc (hit w hm).1; omega, (zbi6 (hvv w hm)).1⟩
  · rw [zbsq, zn9]
    have h1 : zec (itemsA l) ≤ (itemsA l).length * (4096 + 1) := zblw _ fun w hw => (zbi6 (hvv w (zbi3 hw).1)).2.1
    show 2 + (sizAnns [] + zec (itemsA l)) ≤ _
    rw [zbm2]
    have := Nat.mul_le_mul hlen (Nat.le_refl (4096 + 1))
    omega
theorem tany_eq {d : Nat} (l : List Weighted) (hl : l.length ≤ 1000000) (h : ∀ w ∈ l, fineAnn d w.Ann ∧ sizAnn w.Ann ≤ 4611686018427387904) (hd : d ≤ 99) : zb7 l = (true, !l.all fun w => validA w.Ann) := by
  unfold zb7 zd7
  have : zdd l = IG (fun (_ : Unit) x => zom x) (l.length + (Int.ofNat l.length).toNat + Int.toNat (0 : Int) + (1 : Nat)) () l := rfl
  rw [ztg (P := fun w => !validA w.Ann) (this.trans (IG_eq _ _ _ _ _ (by omega) (fun x hx => by
    unfold zom zwa
    rw [Wy.fin_bn, zbr0 (h x hx).1 (by omega) (h x hx).2]; rfl) (by omega)))]
  simp [List.all_eq_not_any_not]
theorem Test_eq {d : Nat} (fn : Int) (l : List Weighted) (op : Int) (b : Value) (hl : l.length ≤ 1000000) (h : ∀ w ∈ l, fineAnn d w.Ann ∧ sizAnn w.Ann ≤ 4611686018427387904) (hd : d ≤ 99) (h20 : (l.filter hasA).length < 20) :
    zpj fn l op b = (true, testR fn l op b) := by
  unfold zpj z1k testR
  have hI := zbqg l hl (fun w hw => (h w hw).1) hd h20
  have hgt : decide (Int.ofNat (itemsA l).length > 0) = decide (0 < (itemsA l).length) := gt_nat _ 0
  simp only [Wy.fin_bn, Wy.fin_i, Wy.fin_k, zboo fn l op b hl, tany_eq l hl h hd, hI, cond_true, hgt]
  cases hf : fitK fn l op b with
  | false => rfl
  | true =>
    cases hv : l.all fun w => validA w.Ann with
    | false => rfl
    | true =>
      simp only [Bool.not_true, cond_false, Bool.and_self]
      rw [zbr7]
      have hx : (⟨4, ⟨0, 0⟩, [], fn, itemsA l, op, b⟩ : Atom) = tstA fn (itemsA l) op b := rfl
      rw [hx, zbrs (zbey hl hf hv).1 (by omega) (zbey hl hf hv).2]
      cases decide (0 < (itemsA l).length) with
      | true => rfl
      | false =>
        simp only [cond_false, zv0, zbso, cond_true]
        cases fn == 0 with
        | false => rfl
        | true =>
          cases mats op (cmpI 0 b.Int) <;> rfl
theorem zbsd {d : Nat} (fn : Int) (l : List Weighted) (op : Int) (b : Value) (hl : l.length ≤ 1000000) (h : ∀ w ∈ l, fineAnn d w.Ann ∧ sizAnn w.Ann ≤ 4611686018427387904) (hd : d ≤ 99) :
    z56 fn l op b = (true, testR fn l op b) := by
  unfold z56 zbds testR
  have hI := zbpk l hl (fun w hw => (h w hw).1) hd
  have hgt : decide (0 < (itemsA l).length) = !((itemsA l).length == 0) := by rw [zbqe, Bool.not_not]
  have hL : zbkb (fn.toNat + l.length + op.toNat + Int.toNat (0 : Int) + (1 : Nat)) fn l op (0 : Int) b = (true, bif l.all fun w => validA w.Ann then .inr (fn, l, op, b) else .inl 1) := by
    have := zg0 (W := z2x) (z := .inl default) l.length (fun i => (fn, l, op, (), (i : Int), ())) (fun _ => (b, ())) (fun i => (fun w : Weighted => validA w.Ann) (l.getD i default)) (.inl 1) (.inr (fn, l, op, b))
      (fun i hi H K D => by
        show (zwn fn l op i b).ev H K D = _
        unfold zwn
        have hx := h _ (getD_mem hi)
        simp only [Wy.ev_i, Wy.ev_k, Wy.ev_h, Wy.ev_bn, Wy.ev_d, tT, hi, zbrh hx.1 (by omega) hx.2]
        rw [wrap_succ (by omega)]
        cases validA (l.getD i default).Ann <;> rfl)
      (fun H K D => by
        show (zwn fn l op l.length b).ev H K D = _
        unfold zwn
        simp only [Wy.ev_i, Wy.ev_k, tT, Nat.lt_irrefl]) (fn.toNat + l.length + op.toNat + Int.toNat (0 : Int) + (1 : Nat)) (by omega)
    rw [zzg (fun w : Weighted => validA w.Ann)] at this
    exact this
  simp only [Wy.fin_bn, Wy.fin_i, Wy.fin_k, zbqq fn l op b hl, hL, cond_true, hgt]
  cases hf : fitK fn l op b with
  | false => rfl
  | true =>
    cases hv : l.all fun w => validA w.Ann with
    | false => rfl
    | true =>
      simp only [Bool.not_true, cond_false, cond_true, Bool.and_self, isL, getR, hI]
      rw [show (Int.ofNat (itemsA l).length == (0 : Int)) = ((itemsA l).length == 0) from nat_i _ 0, Atom_eq]
      have hx : (⟨4, ⟨0, 0⟩, [], fn, itemsA l, op, b⟩ : Atom) = tstA fn (itemsA l) op b := rfl
      rw [hx, fit_eq (zbey hl hf hv).1 (by omega) (zbey hl hf hv).2]
      cases ((itemsA l).length == 0) with
      | false => rfl
      | true =>
        obtain ⟨⟨_, _, o1, o2⟩, _⟩ := zbi7 hf
        simp only [cond_false, Bool.not_true, zpe, zbru o1 o2, cond_true]
        cases fn == 0 with
        | false => rfl
        | true =>
          cases mats op (cmpI 0 b.Int) <;> rfl

mutual
theorem zbrb : ∀ x : Atom, sizAtom x ≤ totAtom x
  | ⟨_, _, a, _, i, _, _⟩ => by
    rw [sizAtom, totAtom]
    have h1 := zbnc a
    have h2 := zblk i
    omega
theorem zbig : ∀ l : List Factor, zc0 l ≤ zk9 l
  | [] => by rw [zc0, zk9]; exact Nat.le_refl _
  | ⟨x, _⟩ :: r => by
    rw [zc0, zk9]
    have h1 := zbrb x
    have h2 := zbig r
    omega
theorem zbc1 : ∀ l : List Term, sizAnn l ≤ totAnn l
  | [] => by rw [sizAnn, totAnn]; exact Nat.le_refl _
  | ⟨_, fs⟩ :: r => by
    rw [sizAnn, totAnn]
    have h1 := zbig fs
    have h2 := zbc1 r
    omega
theorem zbnc : ∀ l : List (List Term), sizAnns l ≤ totAnns l
  | [] => by rw [sizAnns, totAnns]; exact Nat.le_refl _
  | a :: r => by
    rw [sizAnns, totAnns]
    have h1 := zbc1 a
    have h2 := zbnc r
    omega
theorem zblk : ∀ l : List Weighted, zec l ≤ l.length + zpv l
  | [] => by rw [zec, zpv]; exact Nat.zero_le _
  | ⟨_, a⟩ :: r => by
    rw [zec, zpv]
    have h1 := zbc1 a
    have h2 := zblk r
    simp only [List.length_cons]
    omega
end
theorem zbr1 {d : Nat} {a : List Term} (h : fineAnn (d + 1) a) : fineAnn (d + 1) (fitR a).1 := by
  unfold fitR
  cases withA a with
  | true => exact h
  | false => exact ⟨by simp, fun t ht => by cases ht⟩
theorem zbnj (d : Nat) : fineAnn (d + 1) [] := ⟨by simp, fun t ht => by cases ht⟩
theorem zbq4 (c : Int) (d : Nat) : fineAnn (d + 1) [⟨c, []⟩] := ⟨by simp, fun t ht => by
  rw [List.mem_singleton] at ht; subst ht; exact ⟨by simp, fun f hf => by cases hf⟩⟩
theorem same_eq {d : Nat} {a : List Term} {e : Int} (h : fineAnn d a) (hd : d ≤ 100) (he : e = 0 ∨ a = []) : z5n a e a e = (true, true) := by
  unfold z5n zbeg
  simp only [Wy.fin_i, Wy.fin_bn, Wy.fin_k, zbj4 h hd, beqd, decide_true, cond_true]
  rcases he with rfl | rfl
  · simp
  · cases decide (e = 0) <;> simp
theorem zbse (a : List Term) : (fitR a).2 = 0 ∨ (fitR a).1 = [] := by
  unfold fitR
  cases withA a <;> simp
theorem zbqy {fn : Int} {l : List Weighted} {op : Int} {b : Value} (hl : l.length ≤ 1000000) : fineAnn 10 (testR fn l op b).1 ∧ ((testR fn l op b).2 = 0 ∨ (testR fn l op b).1 = []) := by
  unfold testR
  cases hf : fitK fn l op b with
  | false => exact ⟨zbnj 9, .inr rfl⟩
  | true =>
    cases hv : l.all fun w => validA w.Ann with
    | false => exact ⟨zbnj 9, .inr rfl⟩
    | true =>
      simp only [Bool.and_self, Bool.not_true, cond_false]
      cases decide (0 < (itemsA l).length) with
      | true => exact ⟨zbr1 (d := 9) (zbey hl hf hv).1, zbse _⟩
      | false =>
        cases fn == 0 && mats op (cmpI 0 b.Int) with
        | true => exact ⟨zbq4 1 9, .inl rfl⟩
        | false => exact ⟨zbnj 9, .inl rfl⟩
theorem zbq9 (fn : Int) (items : List Weighted) (op : Int) (bound : Value) (h1 : wf3 fn) (h2 : wf44 items) (h3 : wf3 op) (h4 : wf46 bound) : zh0 fn items op bound = (true, true) := by
  unfold zh0 zsv
  have e5 : decide (Int.ofNat items.length > (5 : Int)) = decide (items.length > 5) := gt_nat _ 5
  rw [Wy.fin_i, e5]
  by_cases h5 : items.length > 5
  · simp only [h5, decide_true, cond_true, Wy.fin_k]
  rw [decide_eq_false h5, cond_false, Wy.fin_i]
  cases decide (Int.ofNat bound.Text.size > (300 : Int)) with
  | true => rfl
  | false =>
  rw [cond_false]
  have key : ∀ (n i : Nat), items.length < i + n → i ≤ items.length → ∃ r, zri n fn items op i bound = (true, r) ∧ (r = .inl true ∨ (r = .inr (fn, items, op, bound) ∧ ∀ w ∈ items.drop i, fineAnn 12 w.Ann ∧ totAnn w.Ann ≤ 30)) := by
    intro n
    induction n with
    | zero => intro i ha hb; omega
    | succ n ih =>
      intro i ha hb
      show ∃ r, (zre fn items op i bound).ev (fun x y => zri n x.1 x.2.1 x.2.2.1 x.2.2.2.2.1 y.1) (fun r => (true, r)) (false, .inl default) = (true, r) ∧ _
      unfold zre
      by_cases hi : i < items.length
      · obtain ⟨q, q1, q2⟩ := Few_ok 30 (by omega) [(items.getD i default).Ann] (by simp) (fun x hx => by
          rw [List.mem_singleton] at hx; subst hx
          exact ⟨(z8t h2.1 _ (getD_mem hi)).2.1, (z8t h2.1 _ (getD_mem hi)).2.2⟩)
        replace q1 : z3w (30 : Int) [(items.getD i default).Ann] = (true, q) := q1
        simp only [Wy.ev_i, Wy.ev_k, Wy.ev_h, Wy.ev_bn, Wy.ev_d, tT, hi, q1]
        cases q with
        | false => exact ⟨_, rfl, .inl rfl⟩
        | true =>
          simp only [Bool.not_true, cond_false]
          cases decide (((items.getD i default).Value.Text.size : Int) > 300) with
          | true => exact ⟨_, rfl, .inl rfl⟩
          | false =>
            rw [cond_false, wrap_succ (by omega)]
            obtain ⟨r, r1, r2⟩ := ih (i + 1) (by omega) (by omega)
            refine ⟨r, r1, ?_⟩
            rcases r2 with r2 | ⟨r2, r3⟩
            · exact .inl r2
            · refine .inr ⟨r2, fun w hw => ?_⟩
              rw [drop_lt hi] at hw
              rcases List.mem_cons.1 hw with rfl | hw
              · exact q2 rfl _ (by simp)
              · exact r3 w hw
      · simp only [Wy.ev_i, Wy.ev_k, Wy.ev_h, Wy.ev_bn, Wy.ev_d, tT, hi]
        exact ⟨_, rfl, .inr ⟨rfl, fun w hw => by rw [drop_ge hi] at hw; cases hw⟩⟩
  obtain ⟨r, r1, r2⟩ := key (fn.toNat + items.length + op.toNat + Int.toNat (0 : Int) + (1 : Nat)) 0 (by omega) (by omega)
  rw [show ((0 : Nat) : Int) = (0 : Int) from rfl] at r1
  rw [Wy.fin_bn, r1]
  rcases r2 with rfl | ⟨rfl, r2⟩
  · rfl
  · rw [List.drop_zero] at r2
    have hl : items.length ≤ 1000000 := by omega
    have hf : ∀ w ∈ items, fineAnn 12 w.Ann := fun w hw => (r2 w hw).1
    have hf2 : ∀ w ∈ items, fineAnn 12 w.Ann ∧ sizAnn w.Ann ≤ 4611686018427387904 := fun w hw => ⟨hf w hw, by have := zbc1 w.Ann; have := (r2 w hw).2; omega⟩
    have h20 : (items.filter hasA).length < 20 := by have := List.length_filter_le hasA items; omega
    have hm : ∀ w ∈ itemsA items, fineAnn 12 w.Ann := fun w hw => hf w (zbi3 hw).1
    have hml : (itemsA items).length ≤ 1000000 := by rw [zbot]; omega
    simp only [cond_true, Wy.fin_i, Wy.fin_bn, Wy.fin_k, isL, getR, cond_false, Test_eq fn items op bound hl hf2 (by omega : 12 ≤ 99) h20, zbsd fn items op bound hl hf2 (by omega : 12 ≤ 99), zbqg items hl hf (by omega : 12 ≤ 99) h20, zbpk items hl hf (by omega : 12 ≤ 99), zuj hml hm (by omega : 12 ≤ 99), cmpL_self, same_eq (zbqy hl).1 (by omega : 10 ≤ 100) (zbqy hl).2]
    rfl
end Go.Proofs.YtnolcogncjijpaaGreatDoor
end
