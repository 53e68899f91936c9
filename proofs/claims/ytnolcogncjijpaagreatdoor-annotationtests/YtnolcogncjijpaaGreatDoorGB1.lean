/- Texts of this claim, joined (the library functions, over typed data). -/
import Derived.Shelf.Strconv.Itoa3
import Derived.Shelf.Strings.OnBuilder
import Derived.Shelf.SlSortCmp.NoneTotal
import Derived.Lib.SmallJoins
import Derived.Shelf.Small.Wraps
import Derived.Shelf.Strings.Cut
import Derived.Shelf.Strings.FuncGrows
import Derived.Shelf.Strconv.ErrVarAll
import Derived.Shelf.Small.Strs
import Derived.Shelf.Strconv.Itoa4
import Derived.Shelf.Strings.Replace
import Derived.Shelf.Small.Bits
import Derived.Test.YtnolcogncjijpaaGreatDoorGA2
set_option autoImplicit false
set_option linter.unusedVariables false
set_option linter.unusedSectionVars false
set_option linter.unusedSimpArgs false
/- Contracts of the library's own functions, over typed data: numbers in decimal, joined strings. -/
namespace Go.Ab
open Go.Sort Go.Proofs Go.Shelf Go.RowKit
variable {ty : Nat → Type}

theorem kept_of_below {P : Program} {cx : Cx ty} (hdr : cx.dr = false) {w w' : World} (h : Below w.heap.size w w') : Kept cx.dr (OPof []) w w' :=
  ⟨h.os, h.tape, h.output, fun e => absurd (hdr ▸ e) (by simp), h.size, fun b hb _ => h.block b hb⟩
theorem kept_of_grow {dr : Bool} {OP : Nat → Prop} {w w' : World} {k : Nat} {os : Array Obj} (h : w' = grow (w.drewN k) os) : Kept dr OP w w' := by
  subst h
  exact ⟨rfl, rfl, rfl, fun _ => Nat.le_add_right _ _, by simp [grow], fun b hb _ => by unfold grow; exact Array.getElem?_append_left (by simpa using hb)⟩
theorem kept_same {dr : Bool} {OP : Nat → Prop} {w w' : World} (h : w' = w) : Kept dr OP w w' := by
  subst h
  exact ⟨rfl, rfl, rfl, fun _ => Nat.le_refl _, Nat.le_refl _, fun b hb _ => rfl⟩

/-- A function whose arguments are read alone, and whose results are plain cells. -/
theorem native_sound {P : Program} {cx : Cx ty} (hcx : CxOK P cx) {f : Nat} (hent : ∀ args w, (callFunc f args).run P w = .ok (.enter f args) w) {α : Type} (A : AL cx α) (G : α → Bool × List Value) (hown : ∀ x vs, ownVals vs (A.enc x) = [])
    (h : ∀ x, (G x).1 = true → ∀ (w : World) (F : Nat → Prop) (vs : List Value), cx.inv w → (∀ b, F b → b < w.heap.size) → All2 (ArgOK cx F w) vs (A.enc x) → Calls P f vs.toArray w fun e w' => e = .returned (tupVal (G x).2) ∧ Kept cx.dr (OPof []) w w') :
    Sound P cx f (mkSpec A fun x => ((G x).1, ⟨(G x).2.map fun v => .pure (.lit v), []⟩)) where
  enters := hent
  calls := fun avs r hsp w F vs hF ha hsep => by
    unfold mkSpec at hsp
    split at hsp
    · rename_i x hx
      simp only [Option.some.injEq, Prod.mk.injEq] at hsp
      obtain ⟨hpre, rfl⟩ := hsp
      have hk := A.kind vs avs x hx
      rw [hown x vs] at hk
      refine (h x hpre w F vs hsep.g.inv hF (A.ok P hcx F w vs avs x hx ha)).mono fun e w' ⟨he, hkept⟩ => ⟨_, he, ?_⟩
      rw [hk]
      refine ⟨F, (G x).2, rfl, hkept, fun _ h => h, fun b h => ⟨Nat.lt_of_lt_of_le (hF b h) hkept.size, .inl h⟩, ⟨by simp, fun j u c hu hc => ?_⟩, .nil, fun i j T l T' l' u v b h => ?_, fun i m T l x u v b _ h => by simp at h⟩
      · rw [List.getElem?_map, hu] at hc
        simp only [Option.map_some, Option.some.injEq] at hc
        subst hc; exact Rep.lit u
      · rw [List.getElem?_map] at h
        cases hg : (G x).2[i]? <;> rw [hg] at h <;> simp at h
    · cases hsp

theorem one_int {cx : Cx ty} {F : Nat → Prop} {w : World} {vs : List Value} {n : Int} (h : All2 (ArgOK cx F w) vs [Arg.pure (.lit (.int .i64 n))]) : vs = [.int .i64 n] := by
  obtain ⟨u, us, rfl, hu, hus⟩ := h.inv
  obtain rfl := hus.nil_left.1
  have hu : Rep cx F w u (.lit (.int .i64 n)) := hu
  cases hu; rfl

/-! ### numbers below 100 in decimal -/
def digits2 (n : Nat) : ByteArray := ⟨#[]⟩ ++ (if n < 10 then ⟨#[UInt8.ofNat (48 + n)]⟩ else ⟨#[UInt8.ofNat (48 + n / 10), UInt8.ofNat (48 + n % 10)]⟩)
theorem digits2_eq {n : Nat} (h : n < 100) : (⟨(Lib.decDigits n).toArray⟩ : ByteArray) = digits2 n := by
  have e : ∀ b : ByteArray, (⟨#[]⟩ : ByteArray) ++ b = b := fun b => by
    have : (⟨#[]⟩ : ByteArray) = ByteArray.empty := rfl
    rw [this]; exact ByteArray.empty_append
  unfold digits2
  rw [e]
  split
  · rename_i h1
    rw [Lib.decDigits, dif_pos h1]
  · rename_i h1
    rw [Lib.decDigits, dif_neg h1, Lib.decDigits, dif_pos (by omega)]
    rfl
def itoa2 (n : Int) : Bool × ByteArray := (decide (0 ≤ n) && decide (n < 100), digits2 n.toNat)
theorem itoa2_sound {P : Program} {cx : Cx ty} {ρ : Ren} (hcx : CxOK P cx) (L : Lays.n171 P ρ) (hent : ∀ args w, (callFunc (ρ.f 171) args).run P w = .ok (.enter (ρ.f 171) args) w) :
    Sound P cx (ρ.f 171) (mkSpec (cx := cx) (aCons (aPure (vInt .i64)) aNil) fun x => ((itoa2 x.1).1, ⟨[.pure (.lit (.string (itoa2 x.1).2))], []⟩)) := by
  refine native_sound hcx hent (aCons (aPure (vInt .i64)) aNil) (fun x => ((itoa2 x.1).1, [.string (itoa2 x.1).2])) (fun x vs => ?_) fun x hx w F vs _ _ ha => ?_
  · cases vs with
    | nil => rfl
    | cons v vs => cases vs <;> rfl
  · obtain ⟨n, _⟩ := x
    obtain rfl := one_int ha
    simp only [itoa2, Bool.and_eq_true, decide_eq_true_eq] at hx
    have h := Any.strconv_Itoa_small L n.toNat (by omega) w
    rw [show ((n.toNat : Nat) : Int) = n by omega, digits2_eq (by omega)] at h
    exact h.mono fun e w' ⟨he, hw⟩ => ⟨he, kept_same hw⟩

/-! ### numbers in decimal, by the table of the powers of ten -/
def decF : Nat → Nat → List UInt8
  | 0, _ => []
  | f + 1, u => bif Nat.blt u 10 then [UInt8.ofNat (48 + u)] else decF f (u / 10) ++ [UInt8.ofNat (48 + u % 10)]
theorem decF_eq : ∀ (f u : Nat), u < 10 ^ f → decF f u = Lib.decDigits u ∨ f = 0
  | 0, _, _ => .inr rfl
  | f + 1, u, h => by
    refine .inl ?_
    rw [decF, Lib.decDigits]
    by_cases h1 : u < 10
    · have : Nat.blt u 10 = true := by simp [Nat.blt]; omega
      rw [this, dif_pos h1]; rfl
    · have : Nat.blt u 10 = false := by cases hb : Nat.blt u 10 <;> simp [Nat.blt] at hb ⊢; omega
      rw [this, dif_neg h1]
      have h2 : u / 10 < 10 ^ f := by rw [Nat.pow_succ] at h; omega
      rcases decF_eq f (u / 10) h2 with h3 | h3
      · rw [h3]; rfl
      · subst h3; simp at h2; omega
def itoaL (n : Int) : List UInt8 := bif decide (n < 0) then 45 :: decF 20 n.natAbs else decF 20 n.toNat
theorem itoaL_eq {n : Int} (h1 : -9223372036854775808 ≤ n) (h2 : n ≤ 9223372036854775807) : itoaL n = Lib.itoa n := by
  have e : ∀ u : Nat, u < 10 ^ 20 → decF 20 u = Lib.decDigits u := fun u h => (decF_eq 20 u h).resolve_right (by omega)
  unfold itoaL Lib.itoa
  by_cases h : n < 0
  · rw [decide_eq_true h, if_pos h, e n.natAbs (by omega)]; rfl
  · rw [decide_eq_false h, if_neg h, e n.toNat (by omega)]; rfl
def itoaB (n : Int) : ByteArray := ⟨(itoaL n).toArray⟩
def itoaF (n : Int) : Bool × ByteArray := (decide (-9223372036854775808 ≤ n) && decide (n ≤ 9223372036854775807), itoaB n)
theorem itoa_sound {P : Program} {cx : Cx ty} {ρ : Ren} (hcx : CxOK P cx) (L : LaysM.n171 P ρ) (hent : ∀ args w, (callFunc (ρ.f 171) args).run P w = .ok (.enter (ρ.f 171) args) w) (htab : ∀ w, cx.inv w → Lib.TabIs P w "internal/strconv.uint64pow10" .u64 Lib.pow10Tab) :
    Sound P cx (ρ.f 171) (mkSpec (cx := cx) (aCons (aPure (vInt .i64)) aNil) fun x => ((itoaF x.1).1, ⟨[.pure (.lit (.string (itoaF x.1).2))], []⟩)) := by
  refine native_sound hcx hent (aCons (aPure (vInt .i64)) aNil) (fun x => ((itoaF x.1).1, [.string (itoaF x.1).2])) (fun x vs => ?_) fun x hx w F vs hi _ ha => ?_
  · cases vs with
    | nil => rfl
    | cons v vs => cases vs <;> rfl
  · obtain ⟨n, _⟩ := x
    obtain rfl := one_int ha
    simp only [itoaF, Bool.and_eq_true, decide_eq_true_eq] at hx
    show Calls P (ρ.f 171) [Value.int .i64 n].toArray w fun e w' => e = .returned (tupVal [.string (itoaB n)]) ∧ Kept cx.dr (OPof []) w w'
    unfold itoaB
    rw [itoaL_eq hx.1 hx.2]
    exact (Any.strconv_Itoa L n hx.1 hx.2 w (htab w hi)).mono fun e w' ⟨he, k, os, hw⟩ => ⟨he, kept_of_grow hw⟩

/-! ### strings.Join -/
def joinB (l : List ByteArray) (sep : ByteArray) : ByteArray := ⟨(Lib.join (l.map (·.data.toList)) sep.data.toList).toArray⟩
def joinF (l : List ByteArray) (sep : ByteArray) : Bool × ByteArray := (decide (l.length ≤ 140737488355328) && decide ((Lib.join (l.map (·.data.toList)) sep.data.toList).length ≤ 140737488355328), joinB l sep)
theorem join_sound {P : Program} {cx : Cx ty} {ρ : Ren} (hcx : CxOK P cx) (hdr : cx.dr = false) (L : Lays.n156 P ρ) (X : Builder.Extra P ρ) (hent : ∀ args w, (callFunc (ρ.f 156) args).run P w = .ok (.enter (ρ.f 156) args) w) {T : Nat} (toS : ty T → ByteArray)
    (henc : ∀ s, cx.enc T s = [.lit (.string (toS s))]) (J : List (ty T) → ByteArray → Bool × ByteArray) (hJ : ∀ l sep, J l sep = joinF (l.map toS) sep) :
    Sound P cx (ρ.f 156) (mkSpec (cx := cx) (aCons (aPure (vSl T)) (aCons (aPure vStr) aNil)) fun x => ((J x.1 x.2.1).1, ⟨[.pure (.lit (.string (J x.1 x.2.1).2))], []⟩)) := by
  refine native_sound hcx hent (aCons (aPure (vSl T)) (aCons (aPure vStr) aNil)) (fun x => ((J x.1 x.2.1).1, [.string (J x.1 x.2.1).2])) (fun x vs => ?_) fun x hx w F vs hi hF ha => ?_
  · cases vs with
    | nil => rfl
    | cons v vs => cases vs with
      | nil => rfl
      | cons u us => cases us <;> rfl
  · obtain ⟨l, sep, _⟩ := x
    obtain ⟨u, us, rfl, hu, hus⟩ := ha.inv
    obtain ⟨u2, us2, rfl, hu2, hus2⟩ := hus.inv
    obtain rfl := hus2.nil_left.1
    have hu : Rep cx F w u (.sl T l) := hu
    have hu2 : Rep cx F w u2 (.lit (.string sep)) := hu2
    cases hu2
    show Calls P (ρ.f 156) [u, .string sep].toArray w fun e w' => e = .returned (tupVal [.string (J l sep).2]) ∧ Kept cx.dr (OPof []) w w'
    have hx : (J l sep).1 = true := hx
    rw [hJ] at hx ⊢
    simp only [joinF, Bool.and_eq_true, decide_eq_true_eq] at hx
    cases hu with
    | slE a c _ hn =>
      refine (Any.strings_Join_none L X a c sep w).mono fun e w' ⟨he, hw⟩ => ⟨?_, kept_same hw⟩
      rw [he]; rfl
    | sl b off cap _ _ us hFb hcap hlen hc hr =>
      have hel : ∀ l : List (ty T), encL cx T l = l.map fun s => .lit (.string (toS s)) := fun l => by
        induction l with
        | nil => rfl
        | cons s l ih =>
          have : encL cx T (s :: l) = cx.enc T s ++ encL cx T l := rfl
          rw [this, ih, henc]; rfl
      have hlen' : us.length = l.length := by rw [hlen, hel]; simp
      have h := Any.strings_Join L X b off cap (l.map toS) sep w (fun j s hj => ?_) (hF b hFb) hx.1 (by simpa using hcap) hx.2
      · rw [List.length_map] at h
        exact h.mono fun e w' ⟨he, hw⟩ => ⟨by rw [he]; rfl, kept_of_below (P := P) hdr hw⟩
      · rw [List.getElem?_map] at hj
        obtain ⟨s0, hs0, rfl⟩ := Option.map_eq_some_iff.1 hj
        have hjl : j < us.length := by rw [hlen']; exact (List.getElem?_eq_some_iff.1 hs0).1
        have hju := List.getElem?_eq_getElem hjl
        have := hr j _ (.lit (.string (toS s0))) hju (by rw [hel, List.getElem?_map, hs0]; rfl)
        rw [hc j _ hju]
        generalize us[j] = u at this
        cases this; rfl
end Go.Ab
/- Sorting rows of the call's own by a function of the program's: the library's sort, over typed data. -/
namespace Go.Ab
open Go.Sort Go.Proofs Go.Shelf
variable {ty : Nat → Type}

/-- What the sort asks of a comparison, at these elements. -/
structure SortOK {α : Type} (c : α → α → Bool × Int) (l : List α) : Prop where
  size : l.length < 4611686018427387904
  ends : ∀ x ∈ l, ∀ y ∈ l, (c x y).1 = true
  irrefl : ∀ x ∈ l, ¬ (c x x).2 < 0
  trans : ∀ x ∈ l, ∀ y ∈ l, ∀ z ∈ l, (c x y).2 < 0 → (c y z).2 < 0 → (c x z).2 < 0
  ntrans : ∀ x ∈ l, ∀ y ∈ l, ∀ z ∈ l, ¬ (c x y).2 < 0 → ¬ (c y z).2 < 0 → ¬ (c x z).2 < 0
  total : ∀ x ∈ l, ∀ y ∈ l, ¬ (c x y).2 < 0 → ¬ (c y x).2 < 0 → x = y
instance {α : Type} [DecidableEq α] (c : α → α → Bool × Int) (l : List α) : Decidable (SortOK c l) :=
  decidable_of_iff (l.length < 4611686018427387904 ∧ (∀ x ∈ l, ∀ y ∈ l, (c x y).1 = true) ∧ (∀ x ∈ l, ¬ (c x x).2 < 0) ∧ (∀ x ∈ l, ∀ y ∈ l, ∀ z ∈ l, (c x y).2 < 0 → (c y z).2 < 0 → (c x z).2 < 0) ∧
    (∀ x ∈ l, ∀ y ∈ l, ∀ z ∈ l, ¬ (c x y).2 < 0 → ¬ (c y z).2 < 0 → ¬ (c x z).2 < 0) ∧ (∀ x ∈ l, ∀ y ∈ l, ¬ (c x y).2 < 0 → ¬ (c y x).2 < 0 → x = y))
    ⟨fun ⟨h1, h2, h3, h4, h5, h6⟩ => ⟨h1, h2, h3, h4, h5, h6⟩, fun h => ⟨h.size, h.ends, h.irrefl, h.trans, h.ntrans, h.total⟩⟩
/-- Insertion before the first that is not less. -/
def ins {α : Type} (c : α → α → Bool × Int) (x : α) : List α → List α
  | [] => [x]
  | y :: r => bif decide ((c y x).2 < 0) then y :: ins c x r else x :: y :: r
def isort {α : Type} (c : α → α → Bool × Int) : List α → List α
  | [] => []
  | x :: r => ins c x (isort c r)
/-- The library's sort at these elements: does it end, and with what. -/
def sortFunc {α : Type} [DecidableEq α] (c : α → α → Bool × Int) (l : List α) : Bool × List α := (decide (SortOK c l), isort c l)

theorem ins_perm {α : Type} (c : α → α → Bool × Int) (x : α) : ∀ l : List α, (ins c x l).Perm (x :: l)
  | [] => .refl _
  | y :: r => by
    unfold ins
    cases decide ((c y x).2 < 0)
    · exact .refl _
    · exact ((ins_perm c x r).cons y).trans (.swap x y r)
theorem isort_perm {α : Type} (c : α → α → Bool × Int) : ∀ l : List α, (isort c l).Perm l
  | [] => .refl _
  | x :: r => (ins_perm c x _).trans ((isort_perm c r).cons x)
/-- No later one is less than an earlier one. -/
abbrev Asc {α : Type} (c : α → α → Bool × Int) (l : List α) : Prop := l.Pairwise fun x y => ¬ (c y x).2 < 0
theorem ins_asc {α : Type} {c : α → α → Bool × Int} {l0 : List α} (hn : ∀ x ∈ l0, ∀ y ∈ l0, ∀ z ∈ l0, ¬ (c x y).2 < 0 → ¬ (c y z).2 < 0 → ¬ (c x z).2 < 0) (ha : ∀ x ∈ l0, ∀ y ∈ l0, (c x y).2 < 0 → ¬ (c y x).2 < 0) {x : α} (hx : x ∈ l0) :
    ∀ l : List α, (∀ y ∈ l, y ∈ l0) → Asc c l → Asc c (ins c x l)
  | [], _, _ => by simp [ins]
  | y :: r, hm, h => by
    have h := List.pairwise_cons.1 h
    have hy := hm y (by simp)
    unfold ins
    by_cases hd : (c y x).2 < 0
    · rw [decide_eq_true hd]
      refine List.pairwise_cons.2 ⟨fun z hz => ?_, ins_asc hn ha hx r (fun z hz => hm z (by simp [hz])) h.2⟩
      rcases List.mem_cons.1 ((ins_perm c x r).mem_iff.1 hz) with rfl | hz
      · exact ha _ hy _ hx hd
      · exact h.1 z hz
    · rw [decide_eq_false hd]
      refine List.pairwise_cons.2 ⟨fun z hz => ?_, List.pairwise_cons.2 h⟩
      rcases List.mem_cons.1 hz with rfl | hz
      · exact hd
      · exact hn z (hm z (by simp [hz])) y hy x hx (h.1 z hz) hd
theorem isort_asc {α : Type} {c : α → α → Bool × Int} {l0 : List α} (hn : ∀ x ∈ l0, ∀ y ∈ l0, ∀ z ∈ l0, ¬ (c x y).2 < 0 → ¬ (c y z).2 < 0 → ¬ (c x z).2 < 0) (ha : ∀ x ∈ l0, ∀ y ∈ l0, (c x y).2 < 0 → ¬ (c y x).2 < 0) :
    ∀ l : List α, (∀ y ∈ l, y ∈ l0) → Asc c (isort c l)
  | [], _ => .nil
  | x :: r, hm => ins_asc hn ha (hm x (by simp)) _ (fun y hy => hm y (List.mem_cons_of_mem _ ((isort_perm c r).mem_iff.1 hy))) (isort_asc hn ha r fun y hy => hm y (List.mem_cons_of_mem _ hy))
theorem SortOK.asymm {α : Type} {c : α → α → Bool × Int} {l : List α} (ok : SortOK c l) : ∀ x ∈ l, ∀ y ∈ l, (c x y).2 < 0 → ¬ (c y x).2 < 0 := fun x hx y hy h1 h2 => ok.irrefl x hx (ok.trans x hx y hy x hx h1 h2)
/-- There is one sorted list. -/
theorem SortOK.unique {α : Type} {c : α → α → Bool × Int} {l l' : List α} (ok : SortOK c l) (hp : l'.Perm l) (hs : Asc c l') : l' = isort c l := by
  refine List.Perm.eq_of_pairwise (le := fun x y => ¬ (c y x).2 < 0) (fun a b ha hb h1 h2 => ?_) hs (isort_asc ok.ntrans ok.asymm l fun _ h => h) (hp.trans (isort_perm c l).symm)
  exact ok.total a (hp.mem_iff.1 ha) b ((isort_perm c l).mem_iff.1 hb) h2 h1

/-- Elements with what they are read as. -/
abbrev Elm {V α : Type} (Rp : V → α → Prop) (l : List α) : Type := { p : V × α // Rp p.1 p.2 ∧ p.2 ∈ l }

theorem swo_elm {V α : Type} {Rp : V → α → Prop} {l : List α} {c : α → α → Bool × Int} (ok : SortOK c l) : SWO (ltOf fun x y : Elm Rp l => (c x.1.2 y.1.2).2) :=
  ⟨fun x => by simpa [ltOf] using ok.irrefl x.1.2 x.2.2, fun x y z h1 h2 => by simp only [ltOf, decide_eq_true_eq] at *; exact ok.trans _ x.2.2 _ y.2.2 _ z.2.2 h1 h2, fun x y z h1 h2 => by
    simp only [ltOf, decide_eq_false_iff_not] at *; exact ok.ntrans _ x.2.2 _ y.2.2 _ z.2.2 h1 h2⟩
theorem sorted_elm {V α : Type} {Rp : V → α → Prop} {l : List α} {c : α → α → Bool × Int} (ok : SortOK c l) [Inhabited (Elm Rp l)] (d d' : Array (Elm Rp l)) (hd : d.toList.map (·.1.2) = l)
    (hp : PermIn 0 d.size d d') (hs : SortedIn (ltOf fun x y : Elm Rp l => (c x.1.2 y.1.2).2) 0 d.size d') : d'.toList.map (·.1.2) = isort c l := by
  obtain ⟨h1, h2, h3⟩ := hp
  have e1 : d'.extract 0 d.size = d' := by rw [← h1]; exact Array.extract_size
  rw [e1, Array.extract_size] at h3
  have hm : (d'.toList.map (·.1.2)).Perm (d.toList.map (·.1.2)) := h3.map _
  refine ok.unique (hm.trans (by rw [hd])) ?_
  rw [Asc, List.pairwise_map]
  refine List.pairwise_iff_getElem.2 fun i j hi hj hij => ?_
  have := hs i j (Nat.zero_le _) hij (by simpa [h1] using hj)
  simp only [Array.length_toList] at hi hj
  rw [getElem!_pos d' i hi, getElem!_pos d' j hj] at this
  simpa [ltOf] using this

/-! ### worlds -/
theorem kept_grow {OP : Nat → Prop} {W w' : World} (h : Kept true OP W w') (hop : ∀ b, ¬ OP b) : ∃ q os', w' = grow (W.drewN q) os' := by
  refine ⟨w'.drawn - W.drawn, w'.heap.extract W.heap.size w'.heap.size, ?_⟩
  obtain ⟨h1, h2, h3, h4', h5, h6⟩ := h
  have h4 := h4' rfl
  clear h4'
  obtain ⟨hp, tp, dr, os, ou⟩ := w'
  simp only at h1 h2 h3 h4 h5 h6
  subst h1 h2 h3
  unfold grow World.drewN
  simp only [World.mk.injEq, and_true, true_and]
  refine ⟨?_, by omega⟩
  apply Array.ext_getElem?
  intro i
  rw [Array.getElem?_append]
  split
  · rename_i hi; exact h6 i hi (hop i)
  · rename_i hi
    rw [Array.getElem?_extract]
    split
    · congr 1; omega
    · exact Array.getElem?_eq_none (by omega)

theorem putRow_heap {α : Type} [Inhabited α] (enc : α → Value) (w : World) (blk off : Nat) (d : Array α) (b : Nat) (h : b ≠ blk) : (putRow enc w blk off d).heap[b]? = w.heap[b]? := by
  unfold putRow mapBlock
  simp only [Array.getElem?_modify]
  rw [if_neg (fun e => h e.symm)]
theorem putRow_at {α : Type} [Inhabited α] (enc : α → Value) (w : World) (blk off : Nat) (d : Array α) {c : Array Value} {e : TypeId} {fr : Nat × Nat} (h : w.heap[blk]? = some (.cells c e fr)) :
    (putRow enc w blk off d).heap[blk]? = some (.cells (putCells enc off d c) e fr) := by
  unfold putRow mapBlock
  simp only [Array.getElem?_modify, if_true, h, Option.map_some, onCells]
theorem putCells_take {α : Type} [Inhabited α] (enc : α → Value) (d : Array α) (c : Array Value) (h : d.size ≤ c.size) : (putCells enc 0 d c).size = c.size ∧ (putCells enc 0 d c).toList.take d.size = d.toList.map enc := by
  refine ⟨by simp [putCells], ?_⟩
  apply List.ext_getElem?
  intro i
  rw [List.getElem?_take]
  split
  · rename_i hi
    rw [Array.getElem?_toList]
    unfold putCells
    rw [Array.getElem?_mapIdx, Array.getElem?_eq_getElem (by omega)]
    simp only [Option.map_some]
    rw [if_pos ⟨Nat.zero_le _, by omega⟩]
    simp [getElem!_pos d i hi, hi]
  · rename_i hi
    rw [List.getElem?_eq_none (by simp; omega)]

theorem sworld_at {α : Type} [Inhabited α] (enc : α → Value) (w : World) (blk m : Nat) (d : Array α) (os : Array Obj) : ∀ b, b < w.heap.size → b ≠ blk → (sortWorld enc w blk 0 m d os).heap[b]? = w.heap[b]? := by
  intro b hb hne
  unfold sortWorld grow
  rw [Array.getElem?_append_left (by simpa using hb), putRow_heap _ _ _ _ _ _ hne]
  rfl
theorem sworldK_at {α : Type} [Inhabited α] (enc : α → List Value) (k : Nat) (w : World) (blk m : Nat) (d : Array α) (os : Array Obj) : ∀ b, b < w.heap.size → b ≠ blk → (sortWorldK enc k w blk 0 m d os).heap[b]? = w.heap[b]? := by
  intro b hb hne
  unfold sortWorldK putRowK grow
  rw [Array.getElem?_append_left (by simpa using hb), putRow_heap _ _ _ _ _ _ hne]
  rfl

theorem rep_one {P : Program} {cx : Cx ty} (hcx : CxOK P cx) {F : Nat → Prop} {w : World} {T : Nat} {x : ty T} {us : List Value} (h : All2 (Rep cx F w) us (cx.enc T x)) : ∀ u ∈ us, u.oneCell' = true := by
  have : encL cx T [x] = cx.enc T x := by simp [encL]
  exact encl_one hcx (this ▸ h)

/-- Rows: elements out of cells. -/
theorem elms_of {cx : Cx ty} {P : Program} (hcx : CxOK P cx) {F : Nat → Prop} {w : World} {T : Nat} {l0 : List (ty T)} : ∀ (l : List (ty T)) (xs : List Value), (∀ x ∈ l, x ∈ l0) → All2 (Rep cx F w) xs (encL cx T l) →
    ∃ d : List (Elm (fun us x => All2 (Rep cx F w) us (cx.enc T x)) l0), d.map (·.1.2) = l ∧ d.flatMap (·.1.1) = xs
  | [], xs, hm, h => by
    obtain rfl := h.nil_left.1
    exact ⟨[], rfl, rfl⟩
  | x :: l, xs, hm, h => by
    have e : encL cx T (x :: l) = cx.enc T x ++ encL cx T l := rfl
    have h1 := h.take (cx.enc T x).length
    have h2 := h.drop (cx.enc T x).length
    rw [e, List.take_left] at h1
    rw [e, List.drop_left] at h2
    obtain ⟨d, hd, hx⟩ := elms_of hcx l _ (fun y hy => hm y (List.mem_cons_of_mem _ hy)) h2
    refine ⟨⟨(xs.take (cx.enc T x).length, x), h1, hm x (by simp)⟩ :: d, by simp [hd], ?_⟩
    simp [hx]
theorem elms_rep {cx : Cx ty} {F : Nat → Prop} {w : World} {T : Nat} {l0 : List (ty T)} (d : List (Elm (fun us x => All2 (Rep cx F w) us (cx.enc T x)) l0)) : All2 (Rep cx F w) (d.flatMap (·.1.1)) (encL cx T (d.map (·.1.2))) := by
  induction d with
  | nil => exact .nil
  | cons x d ih =>
    have : encL cx T ((x :: d).map (·.1.2)) = cx.enc T x.1.2 ++ encL cx T (d.map (·.1.2)) := rfl
    rw [this]
    exact x.2.1.append ih

theorem flatK_list {α : Type} [Inhabited α] (enc : α → List Value) (k : Nat) (hk : ∀ x, (enc x).length = k) (d : Array α) : (flatK enc k d).toList = d.toList.flatMap enc := by
  apply List.ext_getElem?
  intro t
  by_cases ht : t < d.size * k
  · have k0 : 0 < k := by rcases Nat.eq_zero_or_pos k with h | h; · subst h; simp at ht
                          · exact h
    have h1 : t / k < d.size := (Nat.div_lt_iff_lt_mul k0).2 ht
    have h2 : t % k < k := Nat.mod_lt _ k0
    have e1 := flat_get enc k hk d.toList (t / k) (t % k) h2
    rw [Nat.mul_comm, Nat.div_add_mod] at e1
    rw [e1, Array.getElem?_toList, Array.getElem?_eq_getElem (by simpa using ht), Array.getElem?_toList, Array.getElem?_eq_getElem h1]
    have := get_flatK enc k d t ht
    rw [getElem!_pos _ t (by simpa using ht), getElem!_pos d _ h1] at this
    rw [this, getElem!_pos _ _ (by rw [hk]; exact h2)]
    simp [hk, h2]
  · rw [List.getElem?_eq_none (by simpa using ht), List.getElem?_eq_none (by rw [flat_len enc k hk]; simpa using ht)]
theorem ownVals_pure : ∀ (vs : List Value) (avs : List (AV ty)), ownVals vs (avs.map Arg.pure) = []
  | [], [] => rfl
  | [], _ :: _ => rfl
  | _ :: _, [] => rfl
  | _ :: vs, _ :: avs => by simp only [List.map_cons, ownVals]; exact ownVals_pure vs avs
theorem sepL_nil : SepL [] := fun i j u v b h => by simp at h
theorem sepW_nil {cx : Cx ty} {w : World} (hi : cx.inv w) (hn : cx.ng ≤ w.heap.size) : SepW cx w [] := ⟨sepL_nil, ⟨hi, fun b ⟨v, hv, _⟩ => absurd hv (by simp), hn⟩⟩
theorem no_opof (b : Nat) : ¬ OPof [] b := fun ⟨v, hv, _⟩ => by cases hv

/-- A comparison's call, in a world that keeps what may be read. -/
theorem cmp_calls {P : Program} {cx : Cx ty} (hdr : cx.dr = true) {g : Nat} {s : Spec ty} (hs : Sound P cx g s) {F : Nat → Prop} {W : World} {us : List Value} {avs : List (AV ty)} {n : Int} (hsp : s (avs.map Arg.pure) = some (true, ⟨[.pure (.lit (.int .i64 n))], []⟩))
    (hF : ∀ b, F b → b < W.heap.size) (ha : All2 (Rep cx F W) us avs) (hg : SepW cx W []) : Calls P g us.toArray W fun e w' => e = .returned (.int .i64 n) ∧ ∃ q os', w' = grow (W.drewN q) os' := by
  have hA : All2 (ArgOK cx F W) us (avs.map Arg.pure) := ⟨by rw [ha.len, List.length_map], fun j u c hu hc => by
    rw [List.getElem?_map] at hc
    obtain ⟨a, ha', rfl⟩ := Option.map_eq_some_iff.1 hc
    exact ha.at_ j u a hu ha'⟩
  refine (hs.calls _ _ hsp W F us hF hA (by rw [ownVals_pure]; exact hg)).mono fun e w' ⟨v, he, hp⟩ => ?_
  obtain ⟨F', rs, hv, hk, _, _, hr, _⟩ := hp.ok
  rw [ownVals_pure, hdr] at hk
  obtain ⟨u, us', rfl, hu, hus⟩ := hr.inv
  obtain rfl := hus.nil_left.1
  have hu : Rep cx F' w' u (.lit (.int .i64 n)) := hu
  cases hu
  exact ⟨by rw [he, hv]; rfl, kept_grow hk no_opof⟩

theorem kept_refl (dr : Bool) (OP : Nat → Prop) (w : World) : Kept dr OP w w := ⟨rfl, rfl, rfl, fun _ => Nat.le_refl _, Nat.le_refl _, fun _ _ _ => rfl⟩
theorem post_upd {cx : Cx ty} {F : Nat → Prop} {w w' : World} {v : Value} {T : Nat} {l : List (ty T)} (hF : ∀ b, F b → b < w.heap.size) (hk : Kept cx.dr (OPof [v]) w w') (hr : RowOK cx F w' v T l) (hn : ∀ b, blkOf v = some b → ¬ F b) :
    Post cx F w [v] ⟨[], [some ⟨T, l⟩]⟩ (.tuple #[]) w' :=
  ⟨⟨F, [], rfl, hk, fun _ h => h, fun b h => ⟨Nat.lt_of_lt_of_le (hF b h) hk.size, .inl h⟩, .nil, .cons ⟨hr, hn⟩ .nil, fun i j T l T' l' u v b h => by simp at h, fun i m T l x u v b h => by simp at h⟩⟩

set_option maxHeartbeats 1000000 in
/-- slices.SortFunc, at structs. -/
theorem sortK_sound {P : Program} {cx : Cx ty} {ρ : Ren} (hcx : CxOK P cx) (hdr : cx.dr = true) (L : SlLaysF0.n6 P ρ) {T : Nat} [DecidableEq (ty T)] (aE : ∀ w, (isAgg (ρ.t 24)).run P w = .ok true w) (zE : ∀ w, (Go.sizeOf (ρ.t 24)).run P w = .ok (szOf cx T) w)
    (hent : ∀ args w, (callFunc (ρ.f 6) args).run P w = .ok (.enter (ρ.f 6) args) w) {g : Nat} {s : Spec ty} (hs : Sound P cx g s) {β : Type} (D : VL cx β) (cmp : β → ty T → ty T → Bool × Int)
    (hcmp : ∀ c x y, (cmp c x y).1 = true → s ((AV.agg (cx.enc T x) :: AV.agg (cx.enc T y) :: D.enc c).map Arg.pure) = some (true, ⟨[.pure (.lit (.int .i64 (cmp c x y).2))], []⟩)) :
    Sound P cx (ρ.f 6) (mkSpec (cx := cx) (aCons (aOwn T) (aCons (aPure (vFn g D)) aNil)) fun x => ((sortFunc (cmp x.2.1) x.1).1, ⟨[], [some ⟨T, (sortFunc (cmp x.2.1) x.1).2⟩]⟩)) where
  enters := hent
  calls := fun avs r hsp w F vs hF ha hsep => by
    unfold mkSpec at hsp
    split at hsp
    · rename_i x hx
      simp only [Option.some.injEq, Prod.mk.injEq] at hsp
      obtain ⟨hpre, rfl⟩ := hsp
      have hk := (aCons (aOwn (cx := cx) T) (aCons (aPure (vFn g D)) aNil)).kind vs avs x hx
      have ha' := (aCons (aOwn (cx := cx) T) (aCons (aPure (vFn g D)) aNil)).ok P hcx F w vs avs x hx ha
      rw [hk] at hsep ⊢
      clear hk hx ha
      obtain ⟨l, c, u0⟩ := x
      obtain ⟨v, vs', rfl, hv, hv'⟩ := ha'.inv
      obtain ⟨fv, vs'', rfl, hfv, h0⟩ := hv'.inv
      obtain rfl := h0.nil_left.1
      clear ha' hv' h0
      have hv : RowOK cx F w v T l ∧ ∀ b, blkOf v = some b → ¬ F b := hv
      have hfv : Rep cx F w fv (.fn g (D.enc c)) := hfv
      obtain ⟨⟨xs, hown, hxs⟩, hnF⟩ := hv
      have hok : SortOK (cmp c) l := of_decide_eq_true hpre
      show Calls P (ρ.f 6) #[v, fv] w fun e w' => ∃ u, e = .returned u ∧ Post cx F w [v] ⟨[], [some ⟨T, isort (cmp c) l⟩]⟩ u w'
      have none_case : l = [] → ∀ p cap, v = .slice p 0 cap → Calls P (ρ.f 6) #[v, fv] w fun e w' => ∃ u, e = .returned u ∧ Post cx F w [v] ⟨[], [some ⟨T, isort (cmp c) l⟩]⟩ u w' := by
        intro hl p cap hvp
        subst hl
        have hrow : RowOK cx F w v T ([] : List (ty T)) := ⟨xs, hown, hxs⟩
        have h := AnyF.slices_SortFunc_none (P := P) (ρ := ρ) L p cap fv w
        rw [← hvp] at h
        refine h.mono fun e w' ⟨he, hw⟩ => ⟨_, he, ?_⟩
        subst hw
        exact post_upd hF (kept_refl _ _ _) hrow hnF
      rcases hown.2 with ⟨rfl, hn0⟩ | ⟨g0, cap, cur, rfl, _, hg, hnc, hcm, hcs, htake⟩
      · exact none_case (List.eq_nil_of_length_eq_zero hn0) none 0 rfl
      · cases hlen : l with
        | nil => subst hlen; exact none_case rfl _ _ rfl
        | cons x0 l0 =>
          rw [← hlen]
          cases hfv with
          | fn _ us _ hul hur =>
            have hcaps : All2 (Rep cx F w) us (D.enc c) := ⟨hul, hur⟩
            obtain ⟨dl, hd1, hd2⟩ := elms_of hcx l xs (fun _ h => h) hxs
            have hne : dl ≠ [] := fun h => by rw [h, hlen] at hd1; simp at hd1
            haveI : Inhabited (Elm (fun us x => All2 (Rep cx F w) us (cx.enc T x)) l) := ⟨dl.head hne⟩
            have hdl : dl.length = l.length := by have := congrArg List.length hd1; simpa using this
            let enc : Elm (fun us x => All2 (Rep cx F w) us (cx.enc T x)) l → List Value := fun p => p.1.1
            have hkk : ∀ p, (enc p).length = szOf cx T := fun p => p.2.1.len.trans (hcx.len T _)
            have hg0 : g0 < w.heap.size := (Array.getElem?_eq_some_iff.1 hg).1
            have hgF : ¬ F g0 := hnF g0 rfl
            have hFW : ∀ m (dk : Array (Elm (fun us x => All2 (Rep cx F w) us (cx.enc T x)) l)) os, ∀ b, F b → F b ∧ (sortWorldK enc (szOf cx T) w g0 0 m dk os).heap[b]? = w.heap[b]? := fun m dk os b hb =>
              ⟨hb, sworldK_at enc _ w g0 m dk os b (hF b hb) (fun h => hgF (h ▸ hb))⟩
            have hgg : cx.ng ≤ g0 := hsep.g.big g0 ⟨_, List.mem_singleton.2 rfl, rfl⟩
            have hsize : ∀ m (dk : Array (Elm (fun us x => All2 (Rep cx F w) us (cx.enc T x)) l)) os, w.heap.size ≤ (sortWorldK enc (szOf cx T) w g0 0 m dk os).heap.size := fun m dk os => by
              unfold sortWorldK putRowK grow; simp [Go.Sort.size_putRow, ahead]
            have hgW : ∀ m (dk : Array (Elm (fun us x => All2 (Rep cx F w) us (cx.enc T x)) l)) os, SepW cx (sortWorldK enc (szOf cx T) w g0 0 m dk os) [] := fun m dk os =>
              sepW_nil (hcx.stable _ _ hsep.g.inv fun b hb => sworldK_at enc _ w g0 m dk os b (Nat.lt_of_lt_of_le hb hsep.g.size) (by omega)) (Nat.le_trans hsep.g.size (hsize m dk os))
            have hflat : ∀ dk : Array (Elm (fun us x => All2 (Rep cx F w) us (cx.enc T x)) l), (flatK enc (szOf cx T) dk).toList = dk.toList.flatMap enc := flatK_list enc _ hkk
            have hH : HoldsK enc (szOf cx T) w g0 0 dl.toArray := by
              intro j hj
              have e1 : (flatK enc (szOf cx T) dl.toArray).toList = xs := by rw [hflat]; exact hd2
              have hjx : j < xs.length := by rw [← e1]; simpa using hj
              have e2 : (flatK enc (szOf cx T) dl.toArray)[j]? = xs[j]? := by rw [← e1, Array.getElem?_toList]
              have e3 : cur[j]? = xs[j]? := by
                rw [← htake, List.getElem?_take, if_pos (by rw [← hown.1]; exact hjx), Array.getElem?_toList]
              refine ⟨?_, ?_⟩
              · unfold World.cell?
                simp only [hg, Option.isSome_none, Bool.false_eq_true, if_false, Nat.zero_add]
                rw [e3, ← e2, getElem!_pos _ j hj, Array.getElem?_eq_getElem hj]; rfl
              · unfold World.frozen?
                simp [hg]
            have hcmpL : CmpLays P g us.toArray enc (szOf cx T) (fun x y => (cmp c x.1.2 y.1.2).2) g0 0 dl.toArray.size w := by
              intro m os dk _ x y
              have h := cmp_calls hdr hs (hcmp c x.1.2 y.1.2 (hok.ends _ x.2.2 _ y.2.2)) (fun b hb => Nat.lt_of_lt_of_le (hF b hb) (hsize m dk os)) (us := .agg x.1.1.toArray :: .agg y.1.1.toArray :: us)
                (.cons (Rep.mono (hFW m dk os) (.agg _ _ x.2.1.len x.2.1.at_)) (.cons (Rep.mono (hFW m dk os) (.agg _ _ y.2.1.len y.2.1.at_)) (hcaps.imp fun _ _ => Rep.mono (hFW m dk os)))) (hgW m dk os)
              have e : #[Value.agg (enc x).toArray, .agg (enc y).toArray] ++ us.toArray = (.agg x.1.1.toArray :: .agg y.1.1.toArray :: us).toArray := by simp [enc]
              rw [e]; exact h
            have hmain := AnyQ.slices_SortFunc L (szOf cx T) aE zE enc hkk (fun p v hv => rep_one hcx p.2.1 v hv) (fun x y => (cmp c x.1.2 y.1.2).2) (swo_elm hok) g us.toArray g0 0 cap dl.toArray w hs.enters hcmpL hH hg0 (by simpa [hdl] using hok.size)
            rw [show dl.toArray.size = l.length by simpa using hdl] at hmain
            refine hmain.mono fun e w' ⟨he, d', n, os, hperm, hsorted, hw⟩ => ⟨_, he, ?_⟩
            have hsz' : d'.size = l.length := by simpa [hdl] using hperm.1
            have hs' : d'.toList.map (·.1.2) = isort (cmp c) l := sorted_elm hok dl.toArray d' hd1 (by simpa [hdl] using hperm) (by simpa [hdl] using hsorted)
            have hlen' : (isort (cmp c) l).length = l.length := (isort_perm (cmp c) l).length_eq
            have hwat : w'.heap[g0]? = some (.cells (putCells id 0 (flatK enc (szOf cx T) d') cur) T (0, 0)) := by
              rw [hw]; unfold sortWorldK putRowK grow
              rw [Array.getElem?_append_left (by simpa [Go.Sort.size_putRow, ahead] using hg0)]
              exact putRow_at id (Sort.ahead w n) g0 0 _ hg
            have hle : (flatK enc (szOf cx T) d').size ≤ cur.size := by
              rw [size_flatK, hsz', hcs]; exact Nat.mul_le_mul_right _ hnc
            obtain ⟨pc1, pc2⟩ := putCells_take id (flatK enc (szOf cx T) d') cur hle
            refine post_upd hF ⟨?_, ?_, ?_, ?_, ?_, ?_⟩ ⟨d'.toList.flatMap enc, ⟨?_, .inr ⟨g0, cap, _, ?_, Nat.zero_le _, hwat, ?_, hcm, ?_, ?_⟩⟩, ?_⟩ hnF
            · rw [hw]; rfl
            · rw [hw]; rfl
            · rw [hw]; rfl
            · intro _; rw [hw]; exact Nat.le_add_right _ _
            · rw [hw]; exact hsize n d' os
            · intro b hb hop
              rw [hw]
              exact sworldK_at enc _ w g0 n d' os b hb (fun h => hop ⟨_, List.mem_singleton.2 rfl, by rw [h]; rfl⟩)
            · rw [flat_len enc _ hkk, hlen']; simp [hsz']
            · rw [hlen']
            · rw [hlen']; exact hnc
            · rw [pc1, hcs]
            · rw [hlen', ← hsz', ← size_flatK enc, pc2, hflat]; simp
            · rw [← hs', hw]
              exact (elms_rep d'.toList).imp fun _ _ => Rep.mono (hFW n d' os)
    · cases hsp

set_option maxHeartbeats 1000000 in
/-- slices.SortFunc, at elements of one cell. -/
theorem sort1_sound {P : Program} {cx : Cx ty} {ρ : Ren} (hcx : CxOK P cx) (hdr : cx.dr = true) (L : SlLaysF.n6 P ρ) {T : Nat} [DecidableEq (ty T)] (cell : ty T → AV ty) (hcell : ∀ x, cx.enc T x = [cell x])
    (hent : ∀ args w, (callFunc (ρ.f 6) args).run P w = .ok (.enter (ρ.f 6) args) w) {g : Nat} {s : Spec ty} (hs : Sound P cx g s) {β : Type} (D : VL cx β) (cmp : β → ty T → ty T → Bool × Int)
    (hcmp : ∀ c x y, (cmp c x y).1 = true → s ((cell x :: cell y :: D.enc c).map Arg.pure) = some (true, ⟨[.pure (.lit (.int .i64 (cmp c x y).2))], []⟩)) :
    Sound P cx (ρ.f 6) (mkSpec (cx := cx) (aCons (aOwn T) (aCons (aPure (vFn g D)) aNil)) fun x => ((sortFunc (cmp x.2.1) x.1).1, ⟨[], [some ⟨T, (sortFunc (cmp x.2.1) x.1).2⟩]⟩)) where
  enters := hent
  calls := fun avs r hsp w F vs hF ha hsep => by
    unfold mkSpec at hsp
    split at hsp
    · rename_i x hx
      simp only [Option.some.injEq, Prod.mk.injEq] at hsp
      obtain ⟨hpre, rfl⟩ := hsp
      have hk := (aCons (aOwn (cx := cx) T) (aCons (aPure (vFn g D)) aNil)).kind vs avs x hx
      have ha' := (aCons (aOwn (cx := cx) T) (aCons (aPure (vFn g D)) aNil)).ok P hcx F w vs avs x hx ha
      rw [hk] at hsep ⊢
      clear hk hx ha
      obtain ⟨l, c, u0⟩ := x
      obtain ⟨v, vs', rfl, hv, hv'⟩ := ha'.inv
      obtain ⟨fv, vs'', rfl, hfv, h0⟩ := hv'.inv
      obtain rfl := h0.nil_left.1
      clear ha' hv' h0
      have hv : RowOK cx F w v T l ∧ ∀ b, blkOf v = some b → ¬ F b := hv
      have hfv : Rep cx F w fv (.fn g (D.enc c)) := hfv
      obtain ⟨⟨xs, hown, hxs⟩, hnF⟩ := hv
      have hok : SortOK (cmp c) l := of_decide_eq_true hpre
      have hk1 : szOf cx T = 1 ∨ l = [] := by
        cases l with
        | nil => exact .inr rfl
        | cons x _ => left; rw [← hcx.len T x, hcell]; rfl
      show Calls P (ρ.f 6) #[v, fv] w fun e w' => ∃ u, e = .returned u ∧ Post cx F w [v] ⟨[], [some ⟨T, isort (cmp c) l⟩]⟩ u w'
      have none_case : l = [] → ∀ p cap, v = .slice p 0 cap → Calls P (ρ.f 6) #[v, fv] w fun e w' => ∃ u, e = .returned u ∧ Post cx F w [v] ⟨[], [some ⟨T, isort (cmp c) l⟩]⟩ u w' := by
        intro hl p cap hvp
        subst hl
        have hrow : RowOK cx F w v T ([] : List (ty T)) := ⟨xs, hown, hxs⟩
        have h := AnyF.slices_SortFunc_none (P := P) (ρ := ρ) { L with } p cap fv w
        rw [← hvp] at h
        refine h.mono fun e w' ⟨he, hw⟩ => ⟨_, he, ?_⟩
        subst hw
        exact post_upd hF (kept_refl _ _ _) hrow hnF
      rcases hown.2 with ⟨rfl, hn0⟩ | ⟨g0, cap, cur, rfl, _, hg, hnc, hcm, hcs, htake⟩
      · exact none_case (List.eq_nil_of_length_eq_zero hn0) none 0 rfl
      · cases hlen : l with
        | nil => subst hlen; exact none_case rfl _ _ rfl
        | cons x0 l0 =>
          rw [← hlen]
          have hk1 : szOf cx T = 1 := hk1.resolve_right (by rw [hlen]; simp)
          cases hfv with
          | fn _ us _ hul hur =>
            have hcaps : All2 (Rep cx F w) us (D.enc c) := ⟨hul, hur⟩
            obtain ⟨dl, hd1, hd2⟩ := elms_of hcx l xs (fun _ h => h) hxs
            have hne : dl ≠ [] := fun h => by rw [h, hlen] at hd1; simp at hd1
            haveI : Inhabited (Elm (fun us x => All2 (Rep cx F w) us (cx.enc T x)) l) := ⟨dl.head hne⟩
            have hdl : dl.length = l.length := by have := congrArg List.length hd1; simpa using this
            let enc : Elm (fun us x => All2 (Rep cx F w) us (cx.enc T x)) l → Value := fun p => p.1.1.headD default
            have hone : ∀ p : Elm (fun us x => All2 (Rep cx F w) us (cx.enc T x)) l, p.1.1 = [enc p] := fun p => by
              have : p.1.1.length = 1 := p.2.1.len.trans ((hcx.len T _).trans hk1)
              obtain ⟨u, hu⟩ := List.length_eq_one_iff.1 this
              simp only [enc, hu, List.headD_cons]
            have hrep : ∀ p : Elm (fun us x => All2 (Rep cx F w) us (cx.enc T x)) l, Rep cx F w (enc p) (cell p.1.2) := fun p =>
              p.2.1.at_ 0 _ _ (by rw [hone p]; rfl) (by rw [hcell]; rfl)
            have hfm : ∀ dk : List (Elm (fun us x => All2 (Rep cx F w) us (cx.enc T x)) l), dk.flatMap (·.1.1) = dk.map enc := fun dk => by
              induction dk with
              | nil => rfl
              | cons p dk ih => rw [List.flatMap_cons, ih, hone p]; rfl
            have hg0 : g0 < w.heap.size := (Array.getElem?_eq_some_iff.1 hg).1
            have hgF : ¬ F g0 := hnF g0 rfl
            have hFW : ∀ m (dk : Array (Elm (fun us x => All2 (Rep cx F w) us (cx.enc T x)) l)) os, ∀ b, F b → F b ∧ (sortWorld enc w g0 0 m dk os).heap[b]? = w.heap[b]? := fun m dk os b hb =>
              ⟨hb, sworld_at enc w g0 m dk os b (hF b hb) (fun h => hgF (h ▸ hb))⟩
            have hgg : cx.ng ≤ g0 := hsep.g.big g0 ⟨_, List.mem_singleton.2 rfl, rfl⟩
            have hsize : ∀ m (dk : Array (Elm (fun us x => All2 (Rep cx F w) us (cx.enc T x)) l)) os, w.heap.size ≤ (sortWorld enc w g0 0 m dk os).heap.size := fun m dk os => by
              unfold sortWorld grow; simp [Go.Sort.size_putRow, ahead]
            have hgW : ∀ m (dk : Array (Elm (fun us x => All2 (Rep cx F w) us (cx.enc T x)) l)) os, SepW cx (sortWorld enc w g0 0 m dk os) [] := fun m dk os =>
              sepW_nil (hcx.stable _ _ hsep.g.inv fun b hb => sworld_at enc w g0 m dk os b (Nat.lt_of_lt_of_le hb hsep.g.size) (by omega)) (Nat.le_trans hsep.g.size (hsize m dk os))
            have hH : Holds enc w g0 0 dl.toArray := by
              intro j hj
              have e1 : dl.map enc = xs := by rw [← hfm]; exact hd2
              have hj' : j < dl.length := by simpa using hj
              have hjx : j < xs.length := by rw [← e1]; simpa using hj
              have e3 : cur[j]? = xs[j]? := by
                rw [← htake, List.getElem?_take, if_pos (by rw [← hown.1]; exact hjx), Array.getElem?_toList]
              refine ⟨?_, ?_⟩
              · unfold World.cell?
                simp only [hg, Option.isSome_none, Bool.false_eq_true, if_false, Nat.zero_add]
                rw [e3, ← e1, getElem!_pos _ j hj]; simp [hj']
              · unfold World.frozen?
                simp [hg]
            have hcmpL : CmpLays1 P g us.toArray enc (fun x y => (cmp c x.1.2 y.1.2).2) g0 0 dl.toArray.size w := by
              intro m os dk _ x y
              have h := cmp_calls hdr hs (hcmp c x.1.2 y.1.2 (hok.ends _ x.2.2 _ y.2.2)) (fun b hb => Nat.lt_of_lt_of_le (hF b hb) (hsize m dk os)) (us := enc x :: enc y :: us)
                (.cons (Rep.mono (hFW m dk os) (hrep x)) (.cons (Rep.mono (hFW m dk os) (hrep y)) (hcaps.imp fun _ _ => Rep.mono (hFW m dk os)))) (hgW m dk os)
              have e : #[enc x, enc y] ++ us.toArray = (enc x :: enc y :: us).toArray := by simp
              rw [e]; exact h
            have hmain := Any.slices_SortFunc L enc (fun p => rep_one hcx p.2.1 _ (by rw [hone p]; simp)) (fun x y => (cmp c x.1.2 y.1.2).2) (swo_elm hok) g us.toArray g0 0 cap dl.toArray w hs.enters hcmpL hH hg0 (by simpa [hdl] using hok.size)
            rw [show dl.toArray.size = l.length by simpa using hdl] at hmain
            refine hmain.mono fun e w' ⟨he, d', n, os, hperm, hsorted, hw⟩ => ⟨_, he, ?_⟩
            have hsz' : d'.size = l.length := by simpa [hdl] using hperm.1
            have hs' : d'.toList.map (·.1.2) = isort (cmp c) l := sorted_elm hok dl.toArray d' hd1 (by simpa [hdl] using hperm) (by simpa [hdl] using hsorted)
            have hlen' : (isort (cmp c) l).length = l.length := (isort_perm (cmp c) l).length_eq
            have hwat : w'.heap[g0]? = some (.cells (putCells enc 0 d' cur) T (0, 0)) := by
              rw [hw]; unfold sortWorld grow
              rw [Array.getElem?_append_left (by simpa [Go.Sort.size_putRow, ahead] using hg0)]
              exact putRow_at enc (Sort.ahead w n) g0 0 _ hg
            have hle : d'.size ≤ cur.size := by
              rw [hsz', hcs, hk1]; omega
            obtain ⟨pc1, pc2⟩ := putCells_take enc d' cur hle
            refine post_upd hF ⟨?_, ?_, ?_, ?_, ?_, ?_⟩ ⟨d'.toList.flatMap (·.1.1), ⟨?_, .inr ⟨g0, cap, _, ?_, Nat.zero_le _, hwat, ?_, hcm, ?_, ?_⟩⟩, ?_⟩ hnF
            · rw [hw]; rfl
            · rw [hw]; rfl
            · rw [hw]; rfl
            · intro _; rw [hw]; exact Nat.le_add_right _ _
            · rw [hw]; exact hsize n d' os
            · intro b hb hop
              rw [hw]
              exact sworld_at enc w g0 n d' os b hb (fun h => hop ⟨_, List.mem_singleton.2 rfl, by rw [h]; rfl⟩)
            · rw [hfm, hlen', hk1]; simp [hsz']
            · rw [hlen']
            · rw [hlen']; exact hnc
            · rw [pc1, hcs]
            · rw [hlen', hk1, Nat.mul_one, ← hsz', pc2, hfm]
            · rw [← hs', hw]
              exact (elms_rep d'.toList).imp fun _ _ => Rep.mono (hFW n d' os)
    · cases hsp
end Go.Ab
/- Contracts of the library's own functions, over typed data: cutting strings, looking through them, numbers out of them. -/
namespace Go.Ab
open Go.Sort Go.Proofs Go.Shelf Go.RowKit
variable {ty : Nat → Type}

/-- A function whose arguments are read alone, and whose results hold no memory. -/
theorem native_soundR {P : Program} {cx : Cx ty} (hcx : CxOK P cx) {f : Nat} (hent : ∀ args w, (callFunc f args).run P w = .ok (.enter f args) w) {α : Type} (A : AL cx α) (G : α → Bool × List (AV ty)) (hown : ∀ x vs, ownVals vs (A.enc x) = [])
    (h : ∀ x, (G x).1 = true → ∀ (w : World) (F : Nat → Prop) (vs : List Value), cx.inv w → cx.ng ≤ w.heap.size → (∀ b, F b → b < w.heap.size) → All2 (ArgOK cx F w) vs (A.enc x) → Calls P f vs.toArray w fun e w' => ∃ us, e = .returned (tupVal us) ∧ All2 (Rep cx (fun _ => False) w') us (G x).2 ∧ Kept cx.dr (OPof []) w w') :
    Sound P cx f (mkSpec A fun x => ((G x).1, ⟨(G x).2.map .pure, []⟩)) where
  enters := hent
  calls := fun avs r hsp w F vs hF ha hsep => by
    unfold mkSpec at hsp
    split at hsp
    · rename_i x hx
      simp only [Option.some.injEq, Prod.mk.injEq] at hsp
      obtain ⟨hpre, rfl⟩ := hsp
      have hk := A.kind vs avs x hx
      rw [hown x vs] at hk
      refine (h x hpre w F vs hsep.g.inv hsep.g.size hF (A.ok P hcx F w vs avs x hx ha)).mono fun e w' ⟨us, he, hus, hkept⟩ => ⟨_, he, ?_⟩
      rw [hk]
      refine ⟨F, us, rfl, hkept, fun _ h => h, fun b h => ⟨Nat.lt_of_lt_of_le (hF b h) hkept.size, .inl h⟩, ⟨by simp [hus.len], fun j u c hu hc => ?_⟩, .nil, fun i j T l T' l' u v b h => ?_, fun i m T l x u v b _ h => by simp at h⟩
      · rw [List.getElem?_map] at hc
        obtain ⟨c', hc', rfl⟩ := Option.map_eq_some_iff.1 hc
        exact (hus.at_ j u c' hu hc').mono fun b hb => hb.elim
      · rw [List.getElem?_map] at h
        cases hg : (G x).2[i]? <;> rw [hg] at h <;> simp at h
    · cases hsp

theorem two_str {cx : Cx ty} {F : Nat → Prop} {w : World} {vs : List Value} {s p : ByteArray} (h : All2 (ArgOK cx F w) vs [Arg.pure (.lit (.string s)), Arg.pure (.lit (.string p))]) : vs = [.string s, .string p] := by
  obtain ⟨u, us, rfl, hu, hus⟩ := h.inv
  obtain ⟨u2, us2, rfl, hu2, hus2⟩ := hus.inv
  obtain rfl := hus2.nil_left.1
  have hu : Rep cx F w u (.lit (.string s)) := hu
  have hu2 : Rep cx F w u2 (.lit (.string p)) := hu2
  cases hu; cases hu2; rfl
theorem own_two {cx : Cx ty} {α β : Type} (a : VD cx α) (b : VD cx β) (x : α × β × Unit) (vs : List Value) : ownVals vs ((aCons (aPure a) (aCons (aPure b) aNil) : AL cx (α × β × Unit)).enc x) = [] := by
  cases vs with
  | nil => rfl
  | cons v vs => cases vs with
    | nil => rfl
    | cons u us => cases us <;> rfl

/-! ### strings.CutPrefix, strings.Cut -/
def cutPrefixF (s p : ByteArray) : Bool × (ByteArray × Bool) := (true, (⟨(Lib.trimPrefix s.data.toList p.data.toList).toArray⟩, Lib.hasPrefix s.data.toList p.data.toList))
theorem cutPrefix_sound {P : Program} {cx : Cx ty} {ρ : Ren} (hcx : CxOK P cx) (L : Lays.n103 P ρ) (hent : ∀ args w, (callFunc (ρ.f 103) args).run P w = .ok (.enter (ρ.f 103) args) w) :
    Sound P cx (ρ.f 103) (mkSpec (cx := cx) (aCons (aPure vStr) (aCons (aPure vStr) aNil)) fun x => ((cutPrefixF x.1 x.2.1).1, ⟨[.pure (.lit (.string (cutPrefixF x.1 x.2.1).2.1)), .pure (.lit (.bool (cutPrefixF x.1 x.2.1).2.2))], []⟩)) := by
  refine native_soundR hcx hent (aCons (aPure vStr) (aCons (aPure vStr) aNil)) (fun x => ((cutPrefixF x.1 x.2.1).1, [.lit (.string (cutPrefixF x.1 x.2.1).2.1), .lit (.bool (cutPrefixF x.1 x.2.1).2.2)])) (own_two _ _) fun x hx w F vs _ _ _ ha => ?_
  obtain ⟨s, p, _⟩ := x
  obtain rfl := two_str ha
  exact (Any.strings_CutPrefix L s p w).mono fun e w' ⟨he, hw⟩ => ⟨[.string _, .bool _], he, .cons (.lit _) (.cons (.lit _) .nil), kept_same hw⟩
def cutF (s p : ByteArray) : Bool × (ByteArray × ByteArray × Bool) :=
  (decide (s.size < 4294967281), (⟨(Lib.cut s.data.toList p.data.toList).1.toArray⟩, ⟨(Lib.cut s.data.toList p.data.toList).2.1.toArray⟩, (Lib.cut s.data.toList p.data.toList).2.2))
theorem cut_sound {P : Program} {cx : Cx ty} {ρ : Ren} (hcx : CxOK P cx) (hdr : cx.dr = false) (L : Lays.n145 P ρ) (hent : ∀ args w, (callFunc (ρ.f 145) args).run P w = .ok (.enter (ρ.f 145) args) w) (hm : ∀ w, cx.inv w → ∃ m, w.cell? ⟨ρ.g 1, 0, none⟩ = some (.int .i64 m)) :
    Sound P cx (ρ.f 145) (mkSpec (cx := cx) (aCons (aPure vStr) (aCons (aPure vStr) aNil)) fun x => ((cutF x.1 x.2.1).1, ⟨[.pure (.lit (.string (cutF x.1 x.2.1).2.1)), .pure (.lit (.string (cutF x.1 x.2.1).2.2.1)), .pure (.lit (.bool (cutF x.1 x.2.1).2.2.2))], []⟩)) := by
  refine native_soundR hcx hent (aCons (aPure vStr) (aCons (aPure vStr) aNil)) (fun x => ((cutF x.1 x.2.1).1, [.lit (.string (cutF x.1 x.2.1).2.1), .lit (.string (cutF x.1 x.2.1).2.2.1), .lit (.bool (cutF x.1 x.2.1).2.2.2)])) (own_two _ _) fun x hx w F vs hi _ _ ha => ?_
  obtain ⟨s, p, _⟩ := x
  obtain rfl := two_str ha
  obtain ⟨m, hm⟩ := hm w hi
  simp only [cutF, decide_eq_true_eq] at hx
  exact (Any.strings_Cut L s p m w hx hm).mono fun e w' ⟨he, n, hw⟩ => ⟨[.string _, .string _, .bool _], he, .cons (.lit _) (.cons (.lit _) (.cons (.lit _) .nil)), kept_of_below (P := P) hdr (hw ▸ below_drewNg w n)⟩

/-! ### strconv.Atoi -/
def atoiF (s : ByteArray) : Bool × (Int × Bool) := (decide (s.size ≤ 281474976710656), match Lib.atoiAll s.data.toList with
  | .ok v => (v, false)
  | .range => (Lib.atoiSat s.data.toList, true)
  | _ => (0, true))
theorem atoi_sound {P : Program} {cx : Cx ty} {ρ : Ren} (hcx : CxOK P cx) (hdr : cx.dr = false) (L : LaysC.n172 P ρ) (hent : ∀ args w, (callFunc (ρ.f 172) args).run P w = .ok (.enter (ρ.f 172) args) w)
    (hs : ∀ w, cx.inv w → ∃ t p, w.var? P "strconv.ErrSyntax" = some #[.iface t p]) (hr : ∀ w, cx.inv w → ∃ t p, w.var? P "strconv.ErrRange" = some #[.iface t p]) :
    Sound P cx (ρ.f 172) (mkSpec (cx := cx) (aCons (aPure vStr) aNil) fun x => ((atoiF x.1).1, ⟨[.pure (.lit (.int .i64 (atoiF x.1).2.1)), .pure (.err (atoiF x.1).2.2)], []⟩)) := by
  refine native_soundR hcx hent (aCons (aPure vStr) aNil) (fun x => ((atoiF x.1).1, [.lit (.int .i64 (atoiF x.1).2.1), .err (atoiF x.1).2.2])) (fun x vs => ?_) fun x hx w F vs hi _ hF ha => ?_
  · cases vs with
    | nil => rfl
    | cons v vs => cases vs <;> rfl
  · obtain ⟨s, _⟩ := x
    obtain ⟨u, us, rfl, hu, hus⟩ := ha.inv
    obtain rfl := hus.nil_left.1
    have hu : Rep cx F w u (.lit (.string s)) := hu
    cases hu
    simp only [atoiF, decide_eq_true_eq] at hx
    obtain ⟨t1, p1, h1⟩ := hs w hi
    obtain ⟨t2, p2, h2⟩ := hr w hi
    simp only [atoiF]
    cases hv : Lib.atoiAll s.data.toList with
    | ok v =>
      refine (Any.strconv_Atoi_ok L s (by omega) v hv w).mono fun e w' ⟨he, hw⟩ => ⟨[.int .i64 v, .nilIface], he, .cons (.lit _) (.cons .errN .nil), ?_⟩
      rcases hw with hw | ⟨t, hw⟩
      · exact kept_same hw
      · exact kept_of_below (P := P) hdr (hw ▸ Go.Joins.below_bytesWorld _ w (ρ.t 5) t (Nat.le_refl _))
    | range =>
      exact (Any.strconv_Atoi_range_var L s hx hv t2 p2 w h2).mono fun e w' ⟨N, he, _, _, hb⟩ => ⟨[.int .i64 (Lib.atoiSat s.data.toList), .iface _ _], he, .cons (.lit _) (.cons (.errS _ _) .nil), kept_of_below (P := P) hdr hb⟩
    | _ =>
      exact (Any.strconv_Atoi_syntax_var L s hx hv t1 p1 w h1).mono fun e w' ⟨N, he, _, _, hb⟩ => ⟨[.int .i64 0, .iface _ _], he, .cons (.lit _) (.cons (.errS _ _) .nil), kept_of_below (P := P) hdr hb⟩

/-! ### strings.ContainsFunc -/
def containsFuncF (p : Nat → Bool) (s : ByteArray) : Bool × Bool := (true, decide (0 ≤ Lib.idxFunc p true s))
theorem containsFunc_sound {P : Program} {cx : Cx ty} {ρ : Ren} (hcx : CxOK P cx) (hdr : cx.dr = false) (L : LaysGw.n17 P ρ) (hent : ∀ args w, (callFunc (ρ.f 17) args).run P w = .ok (.enter (ρ.f 17) args) w) {β : Type} {g : Nat} {sg : Spec ty} (hg : Sound P cx g sg) (D : VL cx β) (p : β → Nat → Bool)
    (hc : ∀ c (x : Nat), x ≤ 1114111 → sg ((.lit (.int .i32 x) :: D.enc c).map Arg.pure) = some (true, ⟨[.pure (.lit (.bool (p c x)))], []⟩)) :
    Sound P cx (ρ.f 17) (mkSpec (cx := cx) (aCons (aPure vStr) (aCons (aPure (vFn g D)) aNil)) fun x => ((containsFuncF (p x.2.1) x.1).1, ⟨[.pure (.lit (.bool (containsFuncF (p x.2.1) x.1).2))], []⟩)) := by
  refine native_soundR hcx hent (aCons (aPure vStr) (aCons (aPure (vFn g D)) aNil)) (fun x => ((containsFuncF (p x.2.1) x.1).1, [.lit (.bool (containsFuncF (p x.2.1) x.1).2)])) (own_two _ _) fun x hx w F vs hi hn hF ha => ?_
  obtain ⟨s, c, _⟩ := x
  obtain ⟨u, us, rfl, hu, hus⟩ := ha.inv
  obtain ⟨u2, us2, rfl, hu2, hus2⟩ := hus.inv
  obtain rfl := hus2.nil_left.1
  have hu : Rep cx F w u (.lit (.string s)) := hu
  have hu2 : Rep cx F w u2 (.fn g (D.enc c)) := hu2
  cases hu
  cases hu2 with
  | fn _ vs _ hlen hr =>
    have hcap : All2 (Rep cx F w) vs (D.enc c) := ⟨hlen, hr⟩
    have hp : PredGrows P g vs.toArray (p c) w := by
      intro W x hx hb
      have hcapW : All2 (ArgOK cx F W) (.int .i32 x :: vs) ((.lit (.int .i32 x) :: D.enc c).map Arg.pure) := by
        refine .cons (show Rep cx F W _ _ from .lit _) ⟨by simp [hlen], fun j u a hu ha => ?_⟩
        rw [List.getElem?_map] at ha
        obtain ⟨a', ha', rfl⟩ := Option.map_eq_some_iff.1 ha
        exact (hcap.at_ j u a' hu ha').mono fun b hb' => ⟨hb', hb.block b (hF b hb')⟩
      have hown : ownVals (.int .i32 (x : Int) :: vs) ((.lit (.int .i32 x) :: D.enc c).map Arg.pure) = [] := ownVals_pure _ _
      have h := hg.calls _ _ (hc c x hx) W F (.int .i32 x :: vs) (fun b hb' => Nat.lt_of_lt_of_le (hF b hb') hb.size) hcapW (by
        rw [hown]
        exact sepW_nil (hcx.stable _ _ hi fun b hb' => hb.block b (Nat.lt_of_lt_of_le hb' hn)) (Nat.le_trans hn hb.size))
      have e1 : (#[encR x] ++ vs.toArray : Array Value) = (Value.int .i32 (x : Int) :: vs).toArray := by simp [encR]
      rw [e1]
      refine h.mono fun e w' ⟨v, he, F', rs, hv, hk, _, _, hres, _⟩ => ?_
      obtain ⟨r, rs', rfl, hr1, hr2⟩ := hres.inv
      obtain rfl := hr2.nil_left.1
      have hr1 : Rep cx F' w' r (.lit (.bool (p c x))) := hr1
      cases hr1
      refine ⟨he.trans (by rw [hv]; rfl), ⟨hk.os, hk.tape, hk.output, hk.size, fun b hb' => hk.keep b hb' ?_⟩⟩
      rw [hown]; exact fun ⟨v, hv, _⟩ => absurd hv (by simp)
    exact (Any.strings_ContainsFunc_grows L g vs.toArray hg.enters (p c) s w hp).mono fun e w' ⟨he, hb⟩ => ⟨[.bool _], he, .cons (.lit _) .nil, kept_of_below (P := P) hdr hb⟩
end Go.Ab
/- Contracts of the library's own functions, over typed data: comparison and replacement in strings, numbers in base ten. -/
namespace Go.Ab
open Go.Sort Go.Proofs Go.Shelf Go.RowKit
variable {ty : Nat → Type}

def compareF (a b : ByteArray) : Bool × Int := (true, Lib.compareBytes a.data.toList b.data.toList)
theorem compare_sound {P : Program} {cx : Cx ty} {ρ : Ren} (hcx : CxOK P cx) (L : Lays.n106 P ρ) (hent : ∀ args w, (callFunc (ρ.f 106) args).run P w = .ok (.enter (ρ.f 106) args) w) :
    Sound P cx (ρ.f 106) (mkSpec (cx := cx) (aCons (aPure vStr) (aCons (aPure vStr) aNil)) fun x => ((compareF x.1 x.2.1).1, ⟨[.pure (.lit (.int .i64 (compareF x.1 x.2.1).2))], []⟩)) := by
  refine native_soundR hcx hent (aCons (aPure vStr) (aCons (aPure vStr) aNil)) (fun x => ((compareF x.1 x.2.1).1, [.lit (.int .i64 (compareF x.1 x.2.1).2)])) (own_two _ _) fun x hx w F vs _ _ _ ha => ?_
  obtain ⟨s, p, _⟩ := x
  obtain rfl := two_str ha
  exact (Any.strings_Compare L s p w).mono fun e w' ⟨he, hw⟩ => ⟨[.int .i64 _], he, .cons (.lit _) .nil, kept_same hw⟩

/-- strconv.FormatInt at base ten. -/
def formatIntF (n b : Int) : Bool × ByteArray := (decide (-9223372036854775808 ≤ n) && decide (n ≤ 9223372036854775807) && decide (b = 10), itoaB n)
theorem formatInt_sound {P : Program} {cx : Cx ty} {ρ : Ren} (hcx : CxOK P cx) (L : LaysM.n173 P ρ) (hent : ∀ args w, (callFunc (ρ.f 173) args).run P w = .ok (.enter (ρ.f 173) args) w) (htab : ∀ w, cx.inv w → Lib.TabIs P w "internal/strconv.uint64pow10" .u64 Lib.pow10Tab) :
    Sound P cx (ρ.f 173) (mkSpec (cx := cx) (aCons (aPure (vInt .i64)) (aCons (aPure (vInt .i64)) aNil)) fun x => ((formatIntF x.1 x.2.1).1, ⟨[.pure (.lit (.string (formatIntF x.1 x.2.1).2))], []⟩)) := by
  refine native_soundR hcx hent (aCons (aPure (vInt .i64)) (aCons (aPure (vInt .i64)) aNil)) (fun x => ((formatIntF x.1 x.2.1).1, [.lit (.string (formatIntF x.1 x.2.1).2)])) (own_two _ _) fun x hx w F vs hi _ _ ha => ?_
  obtain ⟨n, b, _⟩ := x
  obtain ⟨u, us, rfl, hu, hus⟩ := ha.inv
  obtain ⟨u2, us2, rfl, hu2, hus2⟩ := hus.inv
  obtain rfl := hus2.nil_left.1
  have hu : Rep cx F w u (.lit (.int .i64 n)) := hu
  have hu2 : Rep cx F w u2 (.lit (.int .i64 b)) := hu2
  cases hu; cases hu2
  simp only [formatIntF, Bool.and_eq_true, decide_eq_true_eq] at hx
  obtain ⟨⟨h1, h2⟩, rfl⟩ := hx
  refine (Any.strconv_FormatInt_10 L n h1 h2 w (htab w hi)).mono fun e w' ⟨he, k, os, hw⟩ => ⟨[.string (itoaB n)], ?_, .cons (.lit _) .nil, kept_of_grow hw⟩
  rw [he]
  unfold itoaB
  rw [itoaL_eq h1 h2]; rfl

def replaceAllF (s old new : ByteArray) : Bool × ByteArray :=
  (decide (s.size < 4294967281) && decide (1 ≤ old.size) && decide (s.size + Lib.countB s old * new.size ≤ 140737488355328), ⟨(Lib.replaceAll s.data.toList old.data.toList new.data.toList).toArray⟩)
theorem replaceAll_sound {P : Program} {cx : Cx ty} {ρ : Ren} (hcx : CxOK P cx) (hdr : cx.dr = false) (L : Lays.n155 P ρ) (X : Builder.Extra P ρ) (hent : ∀ args w, (callFunc (ρ.f 155) args).run P w = .ok (.enter (ρ.f 155) args) w) (hm : ∀ w, cx.inv w → ∃ m, w.cell? ⟨ρ.g 1, 0, none⟩ = some (.int .i64 m)) :
    Sound P cx (ρ.f 155) (mkSpec (cx := cx) (aCons (aPure vStr) (aCons (aPure vStr) (aCons (aPure vStr) aNil))) fun x => ((replaceAllF x.1 x.2.1 x.2.2.1).1, ⟨[.pure (.lit (.string (replaceAllF x.1 x.2.1 x.2.2.1).2))], []⟩)) := by
  refine native_soundR hcx hent (aCons (aPure vStr) (aCons (aPure vStr) (aCons (aPure vStr) aNil))) (fun x => ((replaceAllF x.1 x.2.1 x.2.2.1).1, [.lit (.string (replaceAllF x.1 x.2.1 x.2.2.1).2)])) (fun x vs => ?_) fun x hx w F vs hi _ _ ha => ?_
  · match vs with
    | [] => rfl
    | [_] => rfl
    | [_, _] => rfl
    | _ :: _ :: _ :: r => cases r <;> rfl
  · obtain ⟨s, p, q, _⟩ := x
    obtain ⟨u, us, rfl, hu, hus⟩ := ha.inv
    obtain ⟨u2, us2, rfl, hu2, hus2⟩ := hus.inv
    obtain ⟨u3, us3, rfl, hu3, hus3⟩ := hus2.inv
    obtain rfl := hus3.nil_left.1
    have hu : Rep cx F w u (.lit (.string s)) := hu
    have hu2 : Rep cx F w u2 (.lit (.string p)) := hu2
    have hu3 : Rep cx F w u3 (.lit (.string q)) := hu3
    cases hu; cases hu2; cases hu3
    obtain ⟨m, hm⟩ := hm w hi
    simp only [replaceAllF, Bool.and_eq_true, decide_eq_true_eq] at hx
    exact (Any.strings_ReplaceAll L X s p q m w hx.1.1 hm hx.1.2 hx.2).mono fun e w' ⟨he, hb⟩ => ⟨[.string _], he, .cons (.lit _) .nil, kept_of_below (P := P) hdr hb⟩
end Go.Ab
/- slices.pdqsortCmpFunc over a whole row of structs, over typed data. -/
namespace Go.Ab
open Go.Sort Go.Proofs Go.Shelf
variable {ty : Nat → Type}

def pdqFunc {α : Type} [DecidableEq α] (c : α → α → Bool × Int) (l : List α) (a b lim : Int) : Bool × List α :=
  (decide (SortOK c l) && (decide (a = 0) && (decide (b = l.length) && (decide (0 ≤ lim) && decide (lim < 4611686018427387904)))), isort c l)

set_option maxHeartbeats 1000000 in
/-- slices.pdqsortCmpFunc over a whole row, at structs. -/
theorem pdqK_sound {P : Program} {cx : Cx ty} {ρ : Ren} (hcx : CxOK P cx) (hdr : cx.dr = true) (L : SlLaysF0.n14 P ρ) {T : Nat} [DecidableEq (ty T)] (aE : ∀ w, (isAgg (ρ.t 24)).run P w = .ok true w) (zE : ∀ w, (Go.sizeOf (ρ.t 24)).run P w = .ok (szOf cx T) w)
    (hent : ∀ args w, (callFunc (ρ.f 14) args).run P w = .ok (.enter (ρ.f 14) args) w) {g : Nat} {s : Spec ty} (hs : Sound P cx g s) {β : Type} (D : VL cx β) (cmp : β → ty T → ty T → Bool × Int)
    (hcmp : ∀ c x y, (cmp c x y).1 = true → s ((AV.agg (cx.enc T x) :: AV.agg (cx.enc T y) :: D.enc c).map Arg.pure) = some (true, ⟨[.pure (.lit (.int .i64 (cmp c x y).2))], []⟩)) :
    Sound P cx (ρ.f 14) (mkSpec (cx := cx) (aCons (aOwn T) (aCons (aPure (vInt .i64)) (aCons (aPure (vInt .i64)) (aCons (aPure (vInt .i64)) (aCons (aPure (vFn g D)) aNil))))) fun x => ((pdqFunc (cmp x.2.2.2.2.1) x.1 x.2.1 x.2.2.1 x.2.2.2.1).1, ⟨[], [some ⟨T, (pdqFunc (cmp x.2.2.2.2.1) x.1 x.2.1 x.2.2.1 x.2.2.2.1).2⟩]⟩)) where
  enters := hent
  calls := fun avs r hsp w F vs hF ha hsep => by
    unfold mkSpec at hsp
    split at hsp
    · rename_i x hx
      simp only [Option.some.injEq, Prod.mk.injEq] at hsp
      obtain ⟨hpre, rfl⟩ := hsp
      have hk := (aCons (aOwn (cx := cx) T) (aCons (aPure (vInt .i64)) (aCons (aPure (vInt .i64)) (aCons (aPure (vInt .i64)) (aCons (aPure (vFn g D)) aNil))))).kind vs avs x hx
      have ha' := (aCons (aOwn (cx := cx) T) (aCons (aPure (vInt .i64)) (aCons (aPure (vInt .i64)) (aCons (aPure (vInt .i64)) (aCons (aPure (vFn g D)) aNil))))).ok P hcx F w vs avs x hx ha
      rw [hk] at hsep ⊢
      clear hk hx ha
      obtain ⟨l, na, nb, nl, c, u0⟩ := x
      obtain ⟨v, vs', rfl, hv, hv'⟩ := ha'.inv
      obtain ⟨ua, vs1, rfl, hua, hv1⟩ := hv'.inv
      obtain ⟨ub, vs2, rfl, hub, hv2⟩ := hv1.inv
      obtain ⟨ul, vs3, rfl, hul', hv3⟩ := hv2.inv
      obtain ⟨fv, vs'', rfl, hfv, h0⟩ := hv3.inv
      obtain rfl := h0.nil_left.1
      clear ha' hv' h0 hv1 hv2 hv3
      have hua : Rep cx F w ua (.lit (.int .i64 na)) := hua
      have hub : Rep cx F w ub (.lit (.int .i64 nb)) := hub
      have hul' : Rep cx F w ul (.lit (.int .i64 nl)) := hul'
      obtain rfl : ua = .int .i64 na := by cases hua; rfl
      obtain rfl : ub = .int .i64 nb := by cases hub; rfl
      obtain rfl : ul = .int .i64 nl := by cases hul'; rfl
      clear hua hub hul'
      have hv : RowOK cx F w v T l ∧ ∀ b, blkOf v = some b → ¬ F b := hv
      have hfv : Rep cx F w fv (.fn g (D.enc c)) := hfv
      obtain ⟨⟨xs, hown, hxs⟩, hnF⟩ := hv
      have hpre : (decide (SortOK (cmp c) l) && (decide (na = 0) && (decide (nb = l.length) && (decide (0 ≤ nl) && decide (nl < 4611686018427387904))))) = true := hpre
      simp only [Bool.and_eq_true, decide_eq_true_eq] at hpre
      obtain ⟨hok, rfl, rfl, hl0, hl1⟩ := hpre
      obtain ⟨lim, rfl⟩ := Int.eq_ofNat_of_zero_le hl0
      show Calls P (ρ.f 14) #[v, .int .i64 0, .int .i64 l.length, .int .i64 lim, fv] w fun e w' => ∃ u, e = .returned u ∧ Post cx F w [v] ⟨[], [some ⟨T, isort (cmp c) l⟩]⟩ u w'
      have none_case : l = [] → ∀ p cap, v = .slice p 0 cap → Calls P (ρ.f 14) #[v, .int .i64 0, .int .i64 l.length, .int .i64 lim, fv] w fun e w' => ∃ u, e = .returned u ∧ Post cx F w [v] ⟨[], [some ⟨T, isort (cmp c) l⟩]⟩ u w' := by
        intro hl p cap hvp
        subst hl
        have hrow : RowOK cx F w v T ([] : List (ty T)) := ⟨xs, hown, hxs⟩
        have h := AnyF.pdqsortCmpFunc_none (P := P) (ρ := ρ) L p cap lim fv w
        rw [← hvp] at h
        refine h.mono fun e w' ⟨he, hw⟩ => ⟨_, he, ?_⟩
        subst hw
        exact post_upd hF (kept_refl _ _ _) hrow hnF
      rcases hown.2 with ⟨rfl, hn0⟩ | ⟨g0, cap, cur, rfl, _, hg, hnc, hcm, hcs, htake⟩
      · exact none_case (List.eq_nil_of_length_eq_zero hn0) none 0 rfl
      · cases hlen : l with
        | nil => subst hlen; exact none_case rfl _ _ rfl
        | cons x0 l0 =>
          rw [← hlen]
          cases hfv with
          | fn _ us _ hul hur =>
            have hcaps : All2 (Rep cx F w) us (D.enc c) := ⟨hul, hur⟩
            obtain ⟨dl, hd1, hd2⟩ := elms_of hcx l xs (fun _ h => h) hxs
            have hne : dl ≠ [] := fun h => by rw [h, hlen] at hd1; simp at hd1
            haveI : Inhabited (Elm (fun us x => All2 (Rep cx F w) us (cx.enc T x)) l) := ⟨dl.head hne⟩
            have hdl : dl.length = l.length := by have := congrArg List.length hd1; simpa using this
            let enc : Elm (fun us x => All2 (Rep cx F w) us (cx.enc T x)) l → List Value := fun p => p.1.1
            have hkk : ∀ p, (enc p).length = szOf cx T := fun p => p.2.1.len.trans (hcx.len T _)
            have hg0 : g0 < w.heap.size := (Array.getElem?_eq_some_iff.1 hg).1
            have hgF : ¬ F g0 := hnF g0 rfl
            have hFW : ∀ m (dk : Array (Elm (fun us x => All2 (Rep cx F w) us (cx.enc T x)) l)) os, ∀ b, F b → F b ∧ (sortWorldK enc (szOf cx T) w g0 0 m dk os).heap[b]? = w.heap[b]? := fun m dk os b hb =>
              ⟨hb, sworldK_at enc _ w g0 m dk os b (hF b hb) (fun h => hgF (h ▸ hb))⟩
            have hgg : cx.ng ≤ g0 := hsep.g.big g0 ⟨_, List.mem_singleton.2 rfl, rfl⟩
            have hsize : ∀ m (dk : Array (Elm (fun us x => All2 (Rep cx F w) us (cx.enc T x)) l)) os, w.heap.size ≤ (sortWorldK enc (szOf cx T) w g0 0 m dk os).heap.size := fun m dk os => by
              unfold sortWorldK putRowK grow; simp [Go.Sort.size_putRow, ahead]
            have hgW : ∀ m (dk : Array (Elm (fun us x => All2 (Rep cx F w) us (cx.enc T x)) l)) os, SepW cx (sortWorldK enc (szOf cx T) w g0 0 m dk os) [] := fun m dk os =>
              sepW_nil (hcx.stable _ _ hsep.g.inv fun b hb => sworldK_at enc _ w g0 m dk os b (Nat.lt_of_lt_of_le hb hsep.g.size) (by omega)) (Nat.le_trans hsep.g.size (hsize m dk os))
            have hflat : ∀ dk : Array (Elm (fun us x => All2 (Rep cx F w) us (cx.enc T x)) l), (flatK enc (szOf cx T) dk).toList = dk.toList.flatMap enc := flatK_list enc _ hkk
            have hH : HoldsK enc (szOf cx T) w g0 0 dl.toArray := by
              intro j hj
              have e1 : (flatK enc (szOf cx T) dl.toArray).toList = xs := by rw [hflat]; exact hd2
              have hjx : j < xs.length := by rw [← e1]; simpa using hj
              have e2 : (flatK enc (szOf cx T) dl.toArray)[j]? = xs[j]? := by rw [← e1, Array.getElem?_toList]
              have e3 : cur[j]? = xs[j]? := by
                rw [← htake, List.getElem?_take, if_pos (by rw [← hown.1]; exact hjx), Array.getElem?_toList]
              refine ⟨?_, ?_⟩
              · unfold World.cell?
                simp only [hg, Option.isSome_none, Bool.false_eq_true, if_false, Nat.zero_add]
                rw [e3, ← e2, getElem!_pos _ j hj, Array.getElem?_eq_getElem hj]; rfl
              · unfold World.frozen?
                simp [hg]
            have hcmpL : CmpLays P g us.toArray enc (szOf cx T) (fun x y => (cmp c x.1.2 y.1.2).2) g0 0 dl.toArray.size w := by
              intro m os dk _ x y
              have h := cmp_calls hdr hs (hcmp c x.1.2 y.1.2 (hok.ends _ x.2.2 _ y.2.2)) (fun b hb => Nat.lt_of_lt_of_le (hF b hb) (hsize m dk os)) (us := .agg x.1.1.toArray :: .agg y.1.1.toArray :: us)
                (.cons (Rep.mono (hFW m dk os) (.agg _ _ x.2.1.len x.2.1.at_)) (.cons (Rep.mono (hFW m dk os) (.agg _ _ y.2.1.len y.2.1.at_)) (hcaps.imp fun _ _ => Rep.mono (hFW m dk os)))) (hgW m dk os)
              have e : #[Value.agg (enc x).toArray, .agg (enc y).toArray] ++ us.toArray = (.agg x.1.1.toArray :: .agg y.1.1.toArray :: us).toArray := by simp [enc]
              rw [e]; exact h
            have hmain0 := AnyQ.pdqsortCmpFunc_all (P := P) (ρ := ρ) L (szOf cx T) aE zE enc (fun x y => (cmp c x.1.2 y.1.2).2) g us.toArray (swo_elm hok) g0 0 cap dl.toArray w hs.enters hcmpL ⟨hkk, fun p v hv => rep_one hcx p.2.1 v hv, hH, hg0⟩ (dl.toArray.size + 1) 0 dl.toArray.size lim dl.toArray w (by omega) rfl (SWK.start hH) (Nat.zero_le _) (Nat.le_refl _) (by simpa [hdl] using hok.size) (by omega) (Or.inl rfl)
            have hp := pdq_sorts (ltOf fun x y : Elm (fun us x => All2 (Rep cx F w) us (cx.enc T x)) l => (cmp c x.1.2 y.1.2).2) (swo_elm hok) dl.toArray 0 dl.toArray.size lim true true (Nat.zero_le _) (Nat.le_refl _) (Or.inl rfl)
            have hmain := hmain0.mono fun _ _ ⟨he, n, os, hw⟩ => (⟨he, _, n, os, hp.1, hp.2, hw⟩ : _ ∧ ∃ d' n os, PermIn 0 dl.toArray.size dl.toArray d' ∧ SortedIn (ltOf fun x y : Elm (fun us x => All2 (Rep cx F w) us (cx.enc T x)) l => (cmp c x.1.2 y.1.2).2) 0 dl.toArray.size d' ∧ _ = sortWorldK enc (szOf cx T) w g0 0 n d' os)
            rw [show dl.toArray.size = l.length by simpa using hdl] at hmain
            refine hmain.mono fun e w' ⟨he, d', n, os, hperm, hsorted, hw⟩ => ⟨_, he, ?_⟩
            have hsz' : d'.size = l.length := by simpa [hdl] using hperm.1
            have hs' : d'.toList.map (·.1.2) = isort (cmp c) l := sorted_elm hok dl.toArray d' hd1 (by simpa [hdl] using hperm) (by simpa [hdl] using hsorted)
            have hlen' : (isort (cmp c) l).length = l.length := (isort_perm (cmp c) l).length_eq
            have hwat : w'.heap[g0]? = some (.cells (putCells id 0 (flatK enc (szOf cx T) d') cur) T (0, 0)) := by
              rw [hw]; unfold sortWorldK putRowK grow
              rw [Array.getElem?_append_left (by simpa [Go.Sort.size_putRow, ahead] using hg0)]
              exact putRow_at id (Sort.ahead w n) g0 0 _ hg
            have hle : (flatK enc (szOf cx T) d').size ≤ cur.size := by
              rw [size_flatK, hsz', hcs]; exact Nat.mul_le_mul_right _ hnc
            obtain ⟨pc1, pc2⟩ := putCells_take id (flatK enc (szOf cx T) d') cur hle
            refine post_upd hF ⟨?_, ?_, ?_, ?_, ?_, ?_⟩ ⟨d'.toList.flatMap enc, ⟨?_, .inr ⟨g0, cap, _, ?_, Nat.zero_le _, hwat, ?_, hcm, ?_, ?_⟩⟩, ?_⟩ hnF
            · rw [hw]; rfl
            · rw [hw]; rfl
            · rw [hw]; rfl
            · intro _; rw [hw]; exact Nat.le_add_right _ _
            · rw [hw]; exact hsize n d' os
            · intro b hb hop
              rw [hw]
              exact sworldK_at enc _ w g0 n d' os b hb (fun h => hop ⟨_, List.mem_singleton.2 rfl, by rw [h]; rfl⟩)
            · rw [flat_len enc _ hkk, hlen']; simp [hsz']
            · rw [hlen']
            · rw [hlen']; exact hnc
            · rw [pc1, hcs]
            · rw [hlen', ← hsz', ← size_flatK enc, pc2, hflat]; simp
            · rw [← hs', hw]
              exact (elms_rep d'.toList).imp fun _ _ => Rep.mono (hFW n d' os)
    · cases hsp


def insFunc {α : Type} [DecidableEq α] (c : α → α → Bool × Int) (l : List α) (a b : Int) : Bool × List α :=
  (decide (SortOK c l) && (decide (a = 0) && decide (b = l.length)), isort c l)
set_option maxHeartbeats 1000000 in
/-- slices.insertionSortCmpFunc over a whole row, at structs. -/
theorem insK_sound {P : Program} {cx : Cx ty} {ρ : Ren} (hcx : CxOK P cx) (hdr : cx.dr = true) (L : SlLaysF0.n20 P ρ) {T : Nat} [DecidableEq (ty T)] (aE : ∀ w, (isAgg (ρ.t 24)).run P w = .ok true w) (zE : ∀ w, (Go.sizeOf (ρ.t 24)).run P w = .ok (szOf cx T) w)
    (hent : ∀ args w, (callFunc (ρ.f 20) args).run P w = .ok (.enter (ρ.f 20) args) w) {g : Nat} {s : Spec ty} (hs : Sound P cx g s) {β : Type} (D : VL cx β) (cmp : β → ty T → ty T → Bool × Int)
    (hcmp : ∀ c x y, (cmp c x y).1 = true → s ((AV.agg (cx.enc T x) :: AV.agg (cx.enc T y) :: D.enc c).map Arg.pure) = some (true, ⟨[.pure (.lit (.int .i64 (cmp c x y).2))], []⟩)) :
    Sound P cx (ρ.f 20) (mkSpec (cx := cx) (aCons (aOwn T) (aCons (aPure (vInt .i64)) (aCons (aPure (vInt .i64)) (aCons (aPure (vFn g D)) aNil)))) fun x => ((insFunc (cmp x.2.2.2.1) x.1 x.2.1 x.2.2.1).1, ⟨[], [some ⟨T, (insFunc (cmp x.2.2.2.1) x.1 x.2.1 x.2.2.1).2⟩]⟩)) where
  enters := hent
  calls := fun avs r hsp w F vs hF ha hsep => by
    unfold mkSpec at hsp
    split at hsp
    · rename_i x hx
      simp only [Option.some.injEq, Prod.mk.injEq] at hsp
      obtain ⟨hpre, rfl⟩ := hsp
      have hk := (aCons (aOwn (cx := cx) T) (aCons (aPure (vInt .i64)) (aCons (aPure (vInt .i64)) (aCons (aPure (vFn g D)) aNil)))).kind vs avs x hx
      have ha' := (aCons (aOwn (cx := cx) T) (aCons (aPure (vInt .i64)) (aCons (aPure (vInt .i64)) (aCons (aPure (vFn g D)) aNil)))).ok P hcx F w vs avs x hx ha
      rw [hk] at hsep ⊢
      clear hk hx ha
      obtain ⟨l, na, nb, c, u0⟩ := x
      obtain ⟨v, vs', rfl, hv, hv'⟩ := ha'.inv
      obtain ⟨ua, vs1, rfl, hua, hv1⟩ := hv'.inv
      obtain ⟨ub, vs2, rfl, hub, hv2⟩ := hv1.inv
      obtain ⟨fv, vs'', rfl, hfv, h0⟩ := hv2.inv
      obtain rfl := h0.nil_left.1
      clear ha' hv' h0 hv1 hv2
      have hua : Rep cx F w ua (.lit (.int .i64 na)) := hua
      have hub : Rep cx F w ub (.lit (.int .i64 nb)) := hub
      obtain rfl : ua = .int .i64 na := by cases hua; rfl
      obtain rfl : ub = .int .i64 nb := by cases hub; rfl
      clear hua hub
      have hv : RowOK cx F w v T l ∧ ∀ b, blkOf v = some b → ¬ F b := hv
      have hfv : Rep cx F w fv (.fn g (D.enc c)) := hfv
      obtain ⟨⟨xs, hown, hxs⟩, hnF⟩ := hv
      have hpre : (decide (SortOK (cmp c) l) && (decide (na = 0) && decide (nb = l.length))) = true := hpre
      simp only [Bool.and_eq_true, decide_eq_true_eq] at hpre
      obtain ⟨hok, rfl, rfl⟩ := hpre
      show Calls P (ρ.f 20) #[v, .int .i64 0, .int .i64 l.length, fv] w fun e w' => ∃ u, e = .returned u ∧ Post cx F w [v] ⟨[], [some ⟨T, isort (cmp c) l⟩]⟩ u w'
      have none_case : l = [] → ∀ p cap, v = .slice p 0 cap → Calls P (ρ.f 20) #[v, .int .i64 0, .int .i64 l.length, fv] w fun e w' => ∃ u, e = .returned u ∧ Post cx F w [v] ⟨[], [some ⟨T, isort (cmp c) l⟩]⟩ u w' := by
        intro hl p cap hvp
        subst hl
        have hrow : RowOK cx F w v T ([] : List (ty T)) := ⟨xs, hown, hxs⟩
        have h := AnyF.insertionSortCmpFunc_none (P := P) (ρ := ρ) L p cap fv w
        rw [← hvp] at h
        refine h.mono fun e w' ⟨he, hw⟩ => ⟨_, he, ?_⟩
        subst hw
        exact post_upd hF (kept_refl _ _ _) hrow hnF
      rcases hown.2 with ⟨rfl, hn0⟩ | ⟨g0, cap, cur, rfl, _, hg, hnc, hcm, hcs, htake⟩
      · exact none_case (List.eq_nil_of_length_eq_zero hn0) none 0 rfl
      · cases hlen : l with
        | nil => subst hlen; exact none_case rfl _ _ rfl
        | cons x0 l0 =>
          rw [← hlen]
          cases hfv with
          | fn _ us _ hul hur =>
            have hcaps : All2 (Rep cx F w) us (D.enc c) := ⟨hul, hur⟩
            obtain ⟨dl, hd1, hd2⟩ := elms_of hcx l xs (fun _ h => h) hxs
            have hne : dl ≠ [] := fun h => by rw [h, hlen] at hd1; simp at hd1
            haveI : Inhabited (Elm (fun us x => All2 (Rep cx F w) us (cx.enc T x)) l) := ⟨dl.head hne⟩
            have hdl : dl.length = l.length := by have := congrArg List.length hd1; simpa using this
            let enc : Elm (fun us x => All2 (Rep cx F w) us (cx.enc T x)) l → List Value := fun p => p.1.1
            have hkk : ∀ p, (enc p).length = szOf cx T := fun p => p.2.1.len.trans (hcx.len T _)
            have hg0 : g0 < w.heap.size := (Array.getElem?_eq_some_iff.1 hg).1
            have hgF : ¬ F g0 := hnF g0 rfl
            have hFW : ∀ m (dk : Array (Elm (fun us x => All2 (Rep cx F w) us (cx.enc T x)) l)) os, ∀ b, F b → F b ∧ (sortWorldK enc (szOf cx T) w g0 0 m dk os).heap[b]? = w.heap[b]? := fun m dk os b hb =>
              ⟨hb, sworldK_at enc _ w g0 m dk os b (hF b hb) (fun h => hgF (h ▸ hb))⟩
            have hgg : cx.ng ≤ g0 := hsep.g.big g0 ⟨_, List.mem_singleton.2 rfl, rfl⟩
            have hsize : ∀ m (dk : Array (Elm (fun us x => All2 (Rep cx F w) us (cx.enc T x)) l)) os, w.heap.size ≤ (sortWorldK enc (szOf cx T) w g0 0 m dk os).heap.size := fun m dk os => by
              unfold sortWorldK putRowK grow; simp [Go.Sort.size_putRow, ahead]
            have hgW : ∀ m (dk : Array (Elm (fun us x => All2 (Rep cx F w) us (cx.enc T x)) l)) os, SepW cx (sortWorldK enc (szOf cx T) w g0 0 m dk os) [] := fun m dk os =>
              sepW_nil (hcx.stable _ _ hsep.g.inv fun b hb => sworldK_at enc _ w g0 m dk os b (Nat.lt_of_lt_of_le hb hsep.g.size) (by omega)) (Nat.le_trans hsep.g.size (hsize m dk os))
            have hflat : ∀ dk : Array (Elm (fun us x => All2 (Rep cx F w) us (cx.enc T x)) l), (flatK enc (szOf cx T) dk).toList = dk.toList.flatMap enc := flatK_list enc _ hkk
            have hH : HoldsK enc (szOf cx T) w g0 0 dl.toArray := by
              intro j hj
              have e1 : (flatK enc (szOf cx T) dl.toArray).toList = xs := by rw [hflat]; exact hd2
              have hjx : j < xs.length := by rw [← e1]; simpa using hj
              have e2 : (flatK enc (szOf cx T) dl.toArray)[j]? = xs[j]? := by rw [← e1, Array.getElem?_toList]
              have e3 : cur[j]? = xs[j]? := by
                rw [← htake, List.getElem?_take, if_pos (by rw [← hown.1]; exact hjx), Array.getElem?_toList]
              refine ⟨?_, ?_⟩
              · unfold World.cell?
                simp only [hg, Option.isSome_none, Bool.false_eq_true, if_false, Nat.zero_add]
                rw [e3, ← e2, getElem!_pos _ j hj, Array.getElem?_eq_getElem hj]; rfl
              · unfold World.frozen?
                simp [hg]
            have hcmpL : CmpLays P g us.toArray enc (szOf cx T) (fun x y => (cmp c x.1.2 y.1.2).2) g0 0 dl.toArray.size w := by
              intro m os dk _ x y
              have h := cmp_calls hdr hs (hcmp c x.1.2 y.1.2 (hok.ends _ x.2.2 _ y.2.2)) (fun b hb => Nat.lt_of_lt_of_le (hF b hb) (hsize m dk os)) (us := .agg x.1.1.toArray :: .agg y.1.1.toArray :: us)
                (.cons (Rep.mono (hFW m dk os) (.agg _ _ x.2.1.len x.2.1.at_)) (.cons (Rep.mono (hFW m dk os) (.agg _ _ y.2.1.len y.2.1.at_)) (hcaps.imp fun _ _ => Rep.mono (hFW m dk os)))) (hgW m dk os)
              have e : #[Value.agg (enc x).toArray, .agg (enc y).toArray] ++ us.toArray = (.agg x.1.1.toArray :: .agg y.1.1.toArray :: us).toArray := by simp [enc]
              rw [e]; exact h
            have hmain0 := AnyQ.insertionSortCmpFunc (P := P) (ρ := ρ) L (szOf cx T) aE zE enc hkk (fun p v hv => rep_one hcx p.2.1 v hv) (fun x y => (cmp c x.1.2 y.1.2).2) g us.toArray g0 0 cap 0 dl.toArray.size dl.toArray w hs.enters hcmpL hH hg0 (Nat.zero_le _) (Nat.le_refl _) (by simpa [hdl] using hok.size)
            have hp := insertionSort_holds (lt := ltOf fun x y : Elm (fun us x => All2 (Rep cx F w) us (cx.enc T x)) l => (cmp c x.1.2 y.1.2).2) (swo_elm hok) dl.toArray 0 dl.toArray.size (Nat.zero_le _) (Nat.le_refl _)
            have hmain := hmain0.mono fun _ _ ⟨he, n, os, hw⟩ => (⟨he, _, n, os, hp.1, hp.2, hw⟩ : _ ∧ ∃ d' n os, PermIn 0 dl.toArray.size dl.toArray d' ∧ SortedIn (ltOf fun x y : Elm (fun us x => All2 (Rep cx F w) us (cx.enc T x)) l => (cmp c x.1.2 y.1.2).2) 0 dl.toArray.size d' ∧ _ = sortWorldK enc (szOf cx T) w g0 0 n d' os)
            rw [show dl.toArray.size = l.length by simpa using hdl] at hmain
            refine hmain.mono fun e w' ⟨he, d', n, os, hperm, hsorted, hw⟩ => ⟨_, he, ?_⟩
            have hsz' : d'.size = l.length := by simpa [hdl] using hperm.1
            have hs' : d'.toList.map (·.1.2) = isort (cmp c) l := sorted_elm hok dl.toArray d' hd1 (by simpa [hdl] using hperm) (by simpa [hdl] using hsorted)
            have hlen' : (isort (cmp c) l).length = l.length := (isort_perm (cmp c) l).length_eq
            have hwat : w'.heap[g0]? = some (.cells (putCells id 0 (flatK enc (szOf cx T) d') cur) T (0, 0)) := by
              rw [hw]; unfold sortWorldK putRowK grow
              rw [Array.getElem?_append_left (by simpa [Go.Sort.size_putRow, ahead] using hg0)]
              exact putRow_at id (Sort.ahead w n) g0 0 _ hg
            have hle : (flatK enc (szOf cx T) d').size ≤ cur.size := by
              rw [size_flatK, hsz', hcs]; exact Nat.mul_le_mul_right _ hnc
            obtain ⟨pc1, pc2⟩ := putCells_take id (flatK enc (szOf cx T) d') cur hle
            refine post_upd hF ⟨?_, ?_, ?_, ?_, ?_, ?_⟩ ⟨d'.toList.flatMap enc, ⟨?_, .inr ⟨g0, cap, _, ?_, Nat.zero_le _, hwat, ?_, hcm, ?_, ?_⟩⟩, ?_⟩ hnF
            · rw [hw]; rfl
            · rw [hw]; rfl
            · rw [hw]; rfl
            · intro _; rw [hw]; exact Nat.le_add_right _ _
            · rw [hw]; exact hsize n d' os
            · intro b hb hop
              rw [hw]
              exact sworldK_at enc _ w g0 n d' os b hb (fun h => hop ⟨_, List.mem_singleton.2 rfl, by rw [h]; rfl⟩)
            · rw [flat_len enc _ hkk, hlen']; simp [hsz']
            · rw [hlen']
            · rw [hlen']; exact hnc
            · rw [pc1, hcs]
            · rw [hlen', ← hsz', ← size_flatK enc, pc2, hflat]; simp
            · rw [← hs', hw]
              exact (elms_rep d'.toList).imp fun _ _ => Rep.mono (hFW n d' os)
    · cases hsp



/-! ### what is known of a call's end -/
theorem Post.unit {cx : Cx ty} {F : Nat → Prop} {w w' : World} {owns : List Value} {us : List (Option ((T : Nat) × List (ty T)))} {v : Value} (h : Post cx F w owns ⟨[], us⟩ v w') : v = .tuple #[] := by
  obtain ⟨F', rs, rfl, _, _, _, h, _⟩ := h.ok
  obtain rfl := h.nil_left.1
  rfl
/-! ### bits.Len -/
def bitsLenF (x : Int) : Bool × Int := (decide (0 ≤ x) && decide (x ≤ 18446744073709551615), ((Lib.bitLen x.toNat : Nat) : Int))
theorem bitsLen_sound {P : Program} {cx : Cx ty} {ρ : Ren} (hcx : CxOK P cx) (L : Lays.n125 P ρ) (hent : ∀ args w, (callFunc (ρ.f 125) args).run P w = .ok (.enter (ρ.f 125) args) w) :
    Sound P cx (ρ.f 125) (mkSpec (cx := cx) (aCons (aPure (vInt .u64)) aNil) fun x => ((bitsLenF x.1).1, ⟨[.pure (.lit (.int .i64 (bitsLenF x.1).2))], []⟩)) :=
  native_sound hcx hent (aCons (aPure (vInt .u64)) aNil) (fun x => ((bitsLenF x.1).1, [.int .i64 (bitsLenF x.1).2])) (fun x vs => by cases vs with | nil => rfl | cons v vs => cases vs <;> rfl) fun x hpre w F vs _ _ ha => by
    obtain ⟨n, u⟩ := x
    have hpre : (decide (0 ≤ n) && decide (n ≤ 18446744073709551615)) = true := hpre
    simp only [Bool.and_eq_true, decide_eq_true_eq] at hpre
    obtain ⟨v, us, rfl, hv, hus⟩ := All2.inv (show All2 (ArgOK cx F w) vs [Arg.pure (.lit (.int .u64 n))] from ha)
    obtain rfl := hus.nil_left.1
    have hv : Rep cx F w v (.lit (.int .u64 n)) := hv
    obtain rfl : v = .int .u64 n := by cases hv; rfl
    exact (Any.bits_Len L n w hpre.1 hpre.2).mono fun e w' ⟨he, hw⟩ => ⟨he, kept_same hw⟩
end Go.Ab
/- Ordered sets over a comparison: plain lists, no program. -/
namespace Go.Ab
variable {α : Type}

/-- A comparison that is a total order. -/
structure Ord3 (c : α → α → Int) : Prop where
  eq : ∀ x y, c x y = 0 ↔ x = y
  swap : ∀ x y, c x y < 0 ↔ 0 < c y x
  trans : ∀ x y z, c x y < 0 → c y z < 0 → c x z < 0
namespace Ord3
variable {c : α → α → Int} (h : Ord3 c)
include h
theorem refl (x : α) : c x x = 0 := (h.eq x x).2 rfl
theorem irrefl (x : α) : ¬ c x x < 0 := by rw [h.refl]; omega
theorem asymm {x y : α} (h1 : c x y < 0) : ¬ c y x < 0 := fun h2 => h.irrefl x (h.trans x y x h1 h2)
theorem conn {x y : α} (h1 : ¬ c x y < 0) (h2 : ¬ c y x < 0) : x = y := (h.eq x y).1 (by have := (h.swap y x); omega)
theorem gt {x y : α} (h1 : 0 < c x y) : c y x < 0 := (h.swap y x).2 h1
theorem le_trans {x y z : α} (h1 : ¬ c y x < 0) (h2 : ¬ c z y < 0) : ¬ c z x < 0 := fun h3 => by
  by_cases hxy : c x y < 0
  · exact h2 (h.trans z x y h3 hxy)
  · have := h.conn hxy h1; subst this; exact h2 h3
end Ord3

/-- Strictly ascending. -/
abbrev SAsc (c : α → α → Int) (l : List α) : Prop := l.Pairwise fun x y => c x y < 0
theorem sasc_unique {c : α → α → Int} (h : Ord3 c) : ∀ {l l' : List α}, SAsc c l → SAsc c l' → (∀ x, x ∈ l ↔ x ∈ l') → l = l'
  | [], [], _, _, _ => rfl
  | [], y :: r, _, _, hm => absurd ((hm y).2 (by simp)) (by simp)
  | x :: r, [], _, _, hm => absurd ((hm x).1 (by simp)) (by simp)
  | x :: r, y :: s, h1, h2, hm => by
    have h1 := List.pairwise_cons.1 h1
    have h2 := List.pairwise_cons.1 h2
    have hxy : x = y := by
      rcases List.mem_cons.1 ((hm x).1 (by simp)) with e | hx
      · exact e
      · rcases List.mem_cons.1 ((hm y).2 (by simp)) with e | hy
        · exact e.symm
        · exact absurd (h1.1 y hy) (h.asymm (h2.1 x hx))
    subst hxy
    congr 1
    refine sasc_unique h h1.2 h2.2 fun z => ⟨fun hz => ?_, fun hz => ?_⟩
    · rcases List.mem_cons.1 ((hm z).1 (by simp [hz])) with e | hz'
      · subst e; exact absurd (h1.1 _ hz) (h.irrefl _)
      · exact hz'
    · rcases List.mem_cons.1 ((hm z).2 (by simp [hz])) with e | hz'
      · subst e; exact absurd (h2.1 _ hz) (h.irrefl _)
      · exact hz'
theorem sasc_nodup {c : α → α → Int} (h : Ord3 c) {l : List α} (hl : SAsc c l) : l.Nodup := hl.imp fun hxy e => by subst e; exact h.irrefl _ hxy

/-- Insertion into a set. -/
def sins (c : α → α → Int) (x : α) : List α → List α
  | [] => [x]
  | y :: r => if c x y < 0 then x :: y :: r else if c x y = 0 then y :: r else y :: sins c x r
theorem sins_mem {c : α → α → Int} (h : Ord3 c) (x : α) : ∀ (l : List α) (z : α), z ∈ sins c x l ↔ z = x ∨ z ∈ l
  | [], z => by simp [sins]
  | y :: r, z => by
    unfold sins
    split
    · simp
    · split
      · rename_i he
        have := (h.eq x y).1 he
        subst this; simp
      · simp only [List.mem_cons, sins_mem h x r z]
        constructor
        · rintro (h | h | h) <;> simp [h]
        · rintro (h | h | h) <;> simp [h]
theorem sins_asc {c : α → α → Int} (h : Ord3 c) (x : α) : ∀ {l : List α}, SAsc c l → SAsc c (sins c x l)
  | [], _ => by simp [sins]
  | y :: r, hl => by
    have hl' := List.pairwise_cons.1 hl
    unfold sins
    split
    · rename_i hx
      exact List.pairwise_cons.2 ⟨fun z hz => by
        rcases List.mem_cons.1 hz with rfl | hz
        · exact hx
        · exact h.trans _ _ _ hx (hl'.1 z hz), hl⟩
    · split
      · exact hl
      · rename_i h1 h2
        refine List.pairwise_cons.2 ⟨fun z hz => ?_, sins_asc h x hl'.2⟩
        rcases (sins_mem h x r z).1 hz with rfl | hz
        · exact h.gt (by omega)
        · exact hl'.1 z hz
/-- The set of the elements of a list. -/
def snorm (c : α → α → Int) (l : List α) : List α := l.foldl (fun o x => sins c x o) []
theorem foldl_sins {c : α → α → Int} (h : Ord3 c) : ∀ (l o : List α), SAsc c o → SAsc c (l.foldl (fun o x => sins c x o) o) ∧ ∀ z, z ∈ l.foldl (fun o x => sins c x o) o ↔ z ∈ o ∨ z ∈ l
  | [], o, ho => ⟨ho, fun z => by simp⟩
  | x :: l, o, ho => by
    obtain ⟨h1, h2⟩ := foldl_sins h l _ (sins_asc h x ho)
    refine ⟨h1, fun z => ?_⟩
    rw [List.foldl_cons, h2, sins_mem h, List.mem_cons]
    constructor
    · rintro ((h | h) | h) <;> simp [h]
    · rintro (h | h | h) <;> simp [h]
theorem snorm_asc {c : α → α → Int} (h : Ord3 c) (l : List α) : SAsc c (snorm c l) := (foldl_sins h l [] .nil).1
theorem snorm_mem {c : α → α → Int} (h : Ord3 c) (l : List α) (z : α) : z ∈ snorm c l ↔ z ∈ l := by
  have := (foldl_sins h l [] .nil).2 z
  simpa [snorm] using this
theorem snorm_of {c : α → α → Int} (h : Ord3 c) {l s : List α} (hs : SAsc c s) (hm : ∀ z, z ∈ s ↔ z ∈ l) : s = snorm c l := sasc_unique h hs (snorm_asc h l) fun z => (hm z).trans (snorm_mem h l z).symm
theorem snorm_self {c : α → α → Int} (h : Ord3 c) {l : List α} (hl : SAsc c l) : snorm c l = l := (snorm_of h hl fun _ => Iff.rfl).symm
theorem snorm_congr {c : α → α → Int} (h : Ord3 c) {l l' : List α} (hm : ∀ z, z ∈ l ↔ z ∈ l') : snorm c l = snorm c l' := snorm_of h (snorm_asc h l) fun z => (snorm_mem h l z).trans (hm z)

theorem perm_length_le_of_nodup_subset : ∀ {l l' : List α}, l.Nodup → (∀ x ∈ l, x ∈ l') → l.length ≤ l'.length
  | [], _, _, _ => Nat.zero_le _
  | x :: r, l', hn, hm => by
    obtain ⟨s, t, rfl⟩ := List.append_of_mem (hm x (by simp))
    have hn' := List.nodup_cons.1 hn
    have := perm_length_le_of_nodup_subset (l' := s ++ t) hn'.2 fun y hy => by
      have := hm y (by simp [hy])
      rw [List.mem_append, List.mem_cons] at this
      rcases this with h | rfl | h
      · simp [h]
      · exact absurd hy hn'.1
      · simp [h]
    simp at this ⊢; omega
theorem snorm_length {c : α → α → Int} (h : Ord3 c) (l : List α) : (snorm c l).length ≤ l.length :=
  perm_length_le_of_nodup_subset (sasc_nodup h (snorm_asc h l)) fun x hx => (snorm_mem h l x).1 hx

/-! ### the library's compaction -/
/-- Those that are not as the one before them. -/
def adjFrom (p : α → α → Bool) : α → List α → List α
  | _, [] => []
  | x, y :: r => bif p y x then adjFrom p y r else y :: adjFrom p y r
def adj (p : α → α → Bool) : List α → List α
  | [] => []
  | x :: r => x :: adjFrom p x r
theorem adjFrom_mem (p : α → α → Bool) : ∀ (l : List α) (x z : α), z ∈ adjFrom p x l → z ∈ l
  | [], _, _, h => by simp [adjFrom] at h
  | y :: r, x, z, h => by
    unfold adjFrom at h
    cases hp : p y x <;> rw [hp] at h
    · rcases List.mem_cons.1 h with rfl | h
      · simp
      · exact List.mem_cons_of_mem _ (adjFrom_mem p r y z h)
    · exact List.mem_cons_of_mem _ (adjFrom_mem p r y z h)
theorem adjFrom_asc {c : α → α → Int} (h : Ord3 c) {p : α → α → Bool} (hp : ∀ x y, p x y = true ↔ x = y) : ∀ (l : List α) (x : α), (x :: l).Pairwise (fun a b => ¬ c b a < 0) → SAsc c (x :: adjFrom p x l) ∧ ∀ z, z ∈ l → z = x ∨ z ∈ adjFrom p x l
  | [], x, _ => by simp [adjFrom]
  | y :: r, x, hl => by
    have hl1 := List.pairwise_cons.1 hl
    obtain ⟨ih1, ih2⟩ := adjFrom_asc h hp r y hl1.2
    unfold adjFrom
    cases he : p y x
    · have hne : y ≠ x := fun e => by rw [(hp y x).2 e] at he; cases he
      have hxy : c x y < 0 := Classical.byContradiction fun h' => hne (h.conn (hl1.1 y (by simp)) h')
      refine ⟨List.pairwise_cons.2 ⟨fun z hz => ?_, ih1⟩, fun z hz => ?_⟩
      · rcases List.mem_cons.1 hz with rfl | hz
        · exact hxy
        · exact h.trans _ _ _ hxy ((List.pairwise_cons.1 ih1).1 z hz)
      · rcases List.mem_cons.1 hz with rfl | hz
        · exact .inr (by simp)
        · rcases ih2 z hz with rfl | hz
          · exact .inr (by simp)
          · exact .inr (List.mem_cons_of_mem _ hz)
    · have e := (hp y x).1 he
      subst e
      refine ⟨ih1, fun z hz => ?_⟩
      rcases List.mem_cons.1 hz with rfl | hz
      · exact .inl rfl
      · exact ih2 z hz
/-- Sorting, then compacting, makes a set. -/
theorem adj_isort {c : α → α → Int} (h : Ord3 c) {p : α → α → Bool} (hp : ∀ x y, p x y = true ↔ x = y) {cc : α → α → Bool × Int} {l : List α} (ok : SortOK cc l) (hc : ∀ x ∈ l, ∀ y ∈ l, (cc x y).2 = c x y) : adj p (isort cc l) = snorm c l := by
  have hs := isort_asc ok.ntrans ok.asymm l fun _ h => h
  have hm := fun z => (isort_perm cc l).mem_iff (a := z)
  have hs' : (isort cc l).Pairwise (fun a b => ¬ c b a < 0) := List.Pairwise.imp_of_mem (fun {a b} ha hb hab => by rw [← hc b ((hm b).1 hb) a ((hm a).1 ha)]; exact hab) hs
  refine snorm_of h ?_ fun z => ?_
  · cases hl : isort cc l with
    | nil => exact .nil
    | cons x r => rw [hl] at hs'; exact (adjFrom_asc h hp r x hs').1
  · rw [← hm z]
    cases hl : isort cc l with
    | nil => simp [adj]
    | cons x r =>
      rw [hl] at hs'
      simp only [adj, List.mem_cons]
      constructor
      · rintro (h | h)
        · exact .inl h
        · exact .inr (adjFrom_mem p r x z h)
      · rintro (h1 | h1)
        · exact .inl h1
        · exact (adjFrom_asc h hp r x hs').2 z h1
/-- A comparison that is a total order, and ends, may be sorted by. -/
theorem sortOK_of {c : α → α → Int} (h : Ord3 c) {cc : α → α → Bool × Int} {l : List α} (hl : l.length < 4611686018427387904) (hc : ∀ x ∈ l, ∀ y ∈ l, cc x y = (true, c x y)) : SortOK cc l where
  size := hl
  ends := fun x hx y hy => by rw [hc x hx y hy]
  irrefl := fun x hx => by rw [hc x hx x hx]; exact h.irrefl x
  trans := fun x hx y hy z hz => by rw [hc x hx y hy, hc y hy z hz, hc x hx z hz]; exact h.trans x y z
  ntrans := fun x hx y hy z hz => by rw [hc x hx y hy, hc y hy z hz, hc x hx z hz]; exact fun h1 h2 => h.le_trans h2 h1
  total := fun x hx y hy => by rw [hc x hx y hy, hc y hy x hx]; exact h.conn

/-! ### lexicographic order -/
def lexc (c : α → α → Int) : List α → List α → Int
  | [], [] => 0
  | [], _ :: _ => -1
  | _ :: _, [] => 1
  | x :: r, y :: s => if c x y = 0 then lexc c r s else c x y
theorem lexc_ord {c : α → α → Int} (h : Ord3 c) : Ord3 (lexc c) where
  eq := by
    intro x
    induction x with
    | nil => intro y; cases y <;> simp [lexc]
    | cons a r ih =>
      intro y
      cases y with
      | nil => simp [lexc]
      | cons b s =>
        unfold lexc
        split
        · rename_i he
          have := (h.eq a b).1 he
          subst this
          rw [ih]; simp
        · rename_i he
          exact ⟨fun h' => absurd h' he, fun h' => by cases h'; exact absurd (h.refl a) he⟩
  swap := by
    intro x
    induction x with
    | nil => intro y; cases y <;> simp [lexc]
    | cons a r ih =>
      intro y
      cases y with
      | nil => simp [lexc]
      | cons b s =>
        unfold lexc
        by_cases he : a = b
        · subst he; rw [h.refl]; simpa using ih s
        · rw [if_neg (fun e => he ((h.eq a b).1 e)), if_neg (fun e => he ((h.eq b a).1 e).symm)]
          exact h.swap a b
  trans := by
    intro x
    induction x with
    | nil =>
      intro y z h1 h2
      cases y with
      | nil => simp [lexc] at h1
      | cons b s => cases z with
        | nil => simp [lexc] at h2
        | cons d t => simp [lexc]
    | cons a r ih =>
      intro y z h1 h2
      cases y with
      | nil => simp [lexc] at h1
      | cons b s => cases z with
        | nil => simp [lexc] at h2
        | cons d t =>
          unfold lexc at h1 h2 ⊢
          by_cases e1 : a = b
          · subst e1
            rw [if_pos (h.refl a)] at h1
            by_cases e2 : a = d
            · subst e2
              rw [if_pos (h.refl a)] at h2 ⊢
              exact ih s t h1 h2
            · rw [if_neg (fun e => e2 ((h.eq a d).1 e))] at h2 ⊢
              exact h2
          · rw [if_neg (fun e => e1 ((h.eq a b).1 e))] at h1
            by_cases e2 : b = d
            · subst e2
              rw [if_neg (fun e => e1 ((h.eq a b).1 e))]
              exact h1
            · rw [if_neg (fun e => e2 ((h.eq b d).1 e))] at h2
              have h3 := h.trans _ _ _ h1 h2
              rw [if_neg (by omega)]
              exact h3

/-! ### numbers -/
theorem wrap_id {n : Int} (h0 : -9223372036854775808 ≤ n) (h1 : n ≤ 9223372036854775807) : IntKind.i64.wrap n = n := by
  have e1 : (2 : Int) ^ 64 = 18446744073709551616 := rfl
  have e2 : (2 : Int) ^ (64 - 1) = 9223372036854775808 := rfl
  simp only [IntKind.wrap, IntKind.bits, IntKind.signed, Bool.true_and, decide_eq_true_eq, e1, e2]
  split <;> omega
theorem getD_drop {l : List α} {i : Nat} {d : α} (h : i < l.length) : l.drop i = l.getD i d :: l.drop (i + 1) := by
  rw [List.getD_eq_getElem?_getD, List.getElem?_eq_getElem h]
  exact List.drop_eq_getElem_cons h
end Go.Ab
/- Words for walking through printed loops: numbers, guards. -/
namespace Go.Ab
variable {α : Type}
theorem lt_nat (i m : Nat) : decide ((i : Int) < (m : Int)) = decide (i < m) := by simp
theorem le_nat (i m : Nat) : decide ((i : Int) ≤ (m : Int)) = decide (i ≤ m) := by simp
theorem ge_nat (i m : Nat) : decide ((i : Int) ≥ (m : Int)) = decide (m ≤ i) := by simp
theorem gt_nat (i m : Nat) : decide ((i : Int) > (m : Int)) = decide (m < i) := by simp
theorem le0_nat (i : Nat) : decide ((0 : Int) ≤ (i : Int)) = true := by simp
theorem wrap_succ {i : Nat} (h : i < 4611686018427387904) : IntKind.i64.wrap ((i : Int) + 1) = ((i + 1 : Nat) : Int) := by
  rw [wrap_id (by omega) (by omega)]; omega
theorem wrap_pred {i : Nat} (h0 : 0 < i) (h : i < 4611686018427387904) : IntKind.i64.wrap ((i : Int) - 1) = ((i - 1 : Nat) : Int) := by
  rw [wrap_id (by omega) (by omega)]; omega
theorem bne_nat (i m : Nat) : ((i : Int) != (m : Int)) = decide (i ≠ m) := by
  by_cases h : i = m
  · subst h; simp
  · have h' : (i : Int) ≠ (m : Int) := fun e => h (by omega)
    simp [h, h', bne_iff_ne]
theorem beq_nat (i m : Nat) : ((i : Int) == (m : Int)) = decide (i = m) := by
  by_cases h : i = m
  · subst h; simp
  · have h' : (i : Int) ≠ (m : Int) := fun e => h (by omega)
    simp [h, h']
theorem reach_of {n : Nat} {b : Nat} (hn : n ≤ 1073741824) (hb : b ≤ 1024) : n * b ≤ reach := by
  have h1 : n * b ≤ 1073741824 * 1024 := Nat.mul_le_mul hn hb
  have : 1073741824 * 1024 ≤ reach := by decide
  omega
/-- What is left of a list from a place on. -/
theorem drop_lt [Inhabited α] {l : List α} {i : Nat} (h : i < l.length) : l.drop i = l.getD i default :: l.drop (i + 1) := getD_drop h
theorem drop_ge {l : List α} {i : Nat} (h : ¬ i < l.length) : l.drop i = [] := List.drop_eq_nil_of_le (by omega)
theorem getD_mem [Inhabited α] {l : List α} {i : Nat} (h : i < l.length) : l.getD i default ∈ l := by
  rw [List.getD_eq_getElem?_getD, List.getElem?_eq_getElem h]; exact List.getElem_mem h
theorem take_set_succ {l : List α} {i : Nat} (x : α) (h : i < l.length) : (l.set i x).take (i + 1) = l.take i ++ [x] := by
  rw [List.take_add_one, List.take_set_of_le (Nat.le_refl i), List.getElem?_set_self h]; rfl
theorem drop_set_lt {l : List α} {i j : Nat} (x : α) (h : i < j) : (l.set i x).drop j = l.drop j := List.drop_set_of_lt h
theorem take_succ_getD [Inhabited α] {l : List α} {i : Nat} (h : i < l.length) : l.take (i + 1) = l.take i ++ [l.getD i default] := by
  rw [List.take_add_one, List.getD_eq_getElem?_getD, List.getElem?_eq_getElem h]; rfl
theorem clear_take {l : List α} {k m : Nat} (x : α) (h : k ≤ l.length) : (l.take k ++ List.replicate m x ++ l.drop (k + m)).take k = l.take k := by
  rw [List.append_assoc, List.take_append_of_le_length (by simp; omega), List.take_take, Nat.min_self]
/-- The ends of lists of numbers. -/
def nums (n : Nat) : List Int := (List.range n).map fun i : Nat => (i : Int)
theorem nums_get {n i : Nat} (h : i < n) : (nums n).getD i default = (i : Int) := by
  simp [nums, List.getD_eq_getElem?_getD, h]
theorem nums_len (n : Nat) : (nums n).length = n := by simp [nums]
theorem nums_mem {n : Nat} {x : Int} : x ∈ nums n ↔ ∃ i : Nat, i < n ∧ x = (i : Int) := by
  simp [nums, eq_comm]
/-- Words that most walks want. -/
theorem tT : (∀ n : Nat, Int.ofNat n = (n : Int)) ∧ (∀ i m : Nat, decide ((i : Int) < (m : Int)) = decide (i < m)) ∧ (∀ i : Nat, decide ((0 : Int) ≤ (i : Int)) = true) ∧ (∀ h : Decidable True, @decide True h = true) ∧ (∀ h : Decidable False, @decide False h = false) ∧
    (∀ b : Bool, (b && b) = b) ∧ (∀ b : Bool, (true && b) = b) ∧ (∀ b : Bool, (b && true) = b) ∧ (∀ b : Bool, (b && false) = false) ∧ (∀ b : Bool, (false && b) = false) ∧ (∀ {α : Type} (a b : α), @cond α true a b = a) ∧ (∀ {α : Type} (a b : α), @cond α false a b = b) ∧ (∀ n : Nat, Int.toNat (n : Int) = n) ∧ (!true) = false ∧ (!false) = true :=
  ⟨fun _ => rfl, lt_nat, le0_nat, fun h => decide_true h, fun h => decide_false h, Bool.and_self, Bool.true_and, Bool.and_true, Bool.and_false, Bool.false_and, fun _ _ => rfl, fun _ _ => rfl, Int.toNat_natCast, rfl, rfl⟩
end Go.Ab
/- Loops over a list, as folds. -/
namespace Go.Ab
section
variable {α β ρ σ τ : Type}
/-- A walk over a list that may end early. -/
def runL (step : τ → σ → σ ⊕ ρ) (fin : σ → ρ) : List τ → σ → ρ
  | [], s => fin s
  | t :: r, s => match step t s with
    | .inl s' => runL step fin r s'
    | .inr x => x
theorem iter_list [Inhabited τ] {W : α → β → Wy α β ρ} {z : ρ} {l : List τ} (ex : Nat → σ → α) (ey : Nat → σ → β) (step : τ → σ → σ ⊕ ρ) (fin : σ → ρ) (I : Nat → σ → Prop)
    (h : ∀ i s, i < l.length → I i s → (∃ s', step (l.getD i default) s = .inl s' ∧ I (i + 1) s' ∧ ∀ (H : α → β → Bool × ρ) K D, (W (ex i s) (ey i s)).ev H K D = H (ex (i + 1) s') (ey (i + 1) s')) ∨
      ∃ r, step (l.getD i default) s = .inr r ∧ ∀ (H : α → β → Bool × ρ) K D, (W (ex i s) (ey i s)).ev H K D = K r)
    (he : ∀ s, I l.length s → ∀ (H : α → β → Bool × ρ) K D, (W (ex l.length s) (ey l.length s)).ev H K D = K (fin s)) :
    ∀ n i s, l.length < i + n → i ≤ l.length → I i s → iterW W z n (ex i s) (ey i s) = (true, runL step fin (l.drop i) s)
  | 0, i, s, h1, h2, hI => by omega
  | n + 1, i, s, h1, h2, hI => by
    show (W (ex i s) (ey i s)).ev (iterW W z n) (fun r => (true, r)) (false, z) = _
    by_cases hi : i < l.length
    · rw [drop_lt hi]
      rcases h i s hi hI with ⟨s', hs, hI', hW⟩ | ⟨r, hs, hW⟩
      · rw [hW, iter_list ex ey step fin I h he n (i + 1) s' (by omega) (by omega) hI']
        simp only [runL, hs]
      · rw [hW]
        simp only [runL, hs]
    · have : i = l.length := by omega
      subst this
      rw [he s hI, drop_ge hi]
      rfl
/-- A loop without state: is there an element that ends it? -/
theorem runL_any (p : τ → Bool) (x y : ρ) : ∀ l : List τ, runL (σ := Unit) (fun t _ => bif p t then .inr x else .inl ()) (fun _ => y) l () = bif l.any p then x else y
  | [] => rfl
  | t :: r => by
    simp only [runL, List.any_cons]
    cases h : p t with
    | true => rfl
    | false => simp only [cond_false, Bool.false_or]; exact runL_any p x y r
/-- A loop that only adds up. -/
theorem runL_fold (f : τ → σ → σ) (fin : σ → ρ) : ∀ (l : List τ) (s : σ), runL (fun t s => .inl (f t s)) fin l s = fin (l.foldl (fun s t => f t s) s)
  | [], s => rfl
  | t :: r, s => by simp only [runL, List.foldl_cons]; exact runL_fold f fin r _
end
end Go.Ab
