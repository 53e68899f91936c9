/- Texts of this claim, joined (the program, its functions in plain words, and what they compute). -/
import Derived.Test.YtnolcogncjijpaaGreatDoorGC4
import Derived.Test.YtnolcogncjijpaaGreatDoorGC3
import Derived.Test.YtnolcogncjijpaaGreatDoorGC1
import Derived.Test.YtnolcogncjijpaaGreatDoorGA2
import Derived.Test.YtnolcogncjijpaaGreatDoorGC2
set_option autoImplicit false
set_option linter.unusedVariables false
set_option linter.unusedSectionVars false
set_option linter.unusedSimpArgs false
set_option maxRecDepth 1000000
set_option maxHeartbeats 0
/- The law of tests. -/
noncomputable section
namespace Go.Proofs.YtnolcogncjijpaaGreatDoor
open Go Go.Ab
mutual
theorem zLJ : ∀ x : Atom, zeS x ≤ zzJ x
 | ⟨_, _, a, _, i, _, _⟩ => by
  rw [zeS, zzJ]
  have h1 := zGo a
  have h2 := zEW i
  omega
theorem zC1 : ∀ l : List Factor, zbA l ≤ zh5 l
 | [] => by rw [zbA, zh5]; exact Nat.le_refl _
 | ⟨x, _⟩ :: r => by
  rw [zbA, zh5]
  have h1 := zLJ x
  have h2 := zC1 r
  omega
theorem zzw : ∀ l : List Term, zK l ≤ zfI l
 | [] => by rw [zK, zfI]; exact Nat.le_refl _
 | ⟨_, fs⟩ :: r => by
  rw [zK, zfI]
  have h1 := zC1 fs
  have h2 := zzw r
  omega
theorem zGo : ∀ l : List (List Term), zfh l ≤ zm5 l
 | [] => by rw [zfh, zm5]; exact Nat.le_refl _
 | a :: r => by
  rw [zfh, zm5]
  have h1 := zzw a
  have h2 := zGo r
  omega
theorem zEW : ∀ l : List Weighted, zdt l ≤ l.length + zk0 l
 | [] => by rw [zdt, zk0]; exact Nat.zero_le _
 | ⟨_, a⟩ :: r => by
  rw [zdt, zk0]
  have h1 := zzw a
  have h2 := zEW r
  simp only [List.length_cons]
  omega
end
theorem zOO (d : Nat) : zA (d + 1) [] := ⟨by simp, fun t ht => by cases ht⟩
theorem zQq {d : Nat} {a : List Term} {e : Int} (h : zA d a) (hd : d ≤ 100) (he : e = 0 ∨ a = []) : zDs a e a e = (true, true) := by
 unfold zDs zFJ
 simp only [Wy.fin_i, Wy.fin_bn, Wy.fin_k, zEf h hd, beqd, decide_true, cond_true]
 rcases he with rfl | rfl
 ·simp
 ·cases decide (e = 0) <;> simp
theorem zDf {B : Nat} : ∀ l : List Factor, (∀ f ∈ l, zeS f.Atom ≤ B) → zbA l ≤ l.length * B
 | [], _ => by rw [zol]; simp
 | f :: r, h => by
  have h1 := h f (by simp)
  have h2 := zDf r fun g hg => h g (by simp [hg])
  rw [zfQ, List.length_cons, Nat.add_mul]; omega
theorem zHv {B : Nat} : ∀ l : List Term, (∀ t ∈ l, 1 + t.Factors.length + zbA t.Factors ≤ B) → zK l ≤ l.length * B
 | [], _ => by rw [zuW]; simp
 | f :: r, h => by
  have h1 := h f (by simp)
  have h2 := zHv r fun g hg => h g (by simp [hg])
  rw [ziJ, List.length_cons, Nat.add_mul]; omega
theorem zKB {l : List Term} (hl : l.length ≤ 1000000) (h : ∀ t ∈ l, GT t) : zA 10 l ∧ zK l ≤ 4611686018427387904 := by
 refine ⟨⟨hl, fun t ht => (h t ht).fine⟩, ?_⟩
 refine Nat.le_trans (zHv (B := 4195330000) l fun t ht => ?_) (by have := Nat.mul_le_mul hl (Nat.le_refl 4195330000); omega)
 have hg := h t ht
 have h1 := zDf (B := 4195328) t.Factors fun f hf => zGN (hg.2.2 f hf).1.1 (hg.2.2 f hf).1.2.2
 have := Nat.mul_le_mul hg.2.1 (Nat.le_refl 4195328)
 have := hg.2.1
 omega
theorem zKJ {t : Term} (ht : GT t) {l : List Term} (hs : Srs l) (h : ∀ x ∈ l, GT x) : ∀ x ∈ putA t l, GT x := fun x hx => by
 have hc := zKc ht.1 (fun y hy => (h y hy).1) x hx
 rcases (zCY hs).1 hx with ⟨h1, _⟩ | ⟨h1, _⟩
 ·exact h x h1
 ·exact ⟨hc, by rw [h1]; exact ht.2⟩
theorem zC8 : ∀ (b a : List Term), Srs a → (∀ x ∈ a, GT x) → (∀ x ∈ b, GT x) → ∀ x ∈ sumA a b, GT x
 | [], _, _, ha, _ => ha
 | t :: r, a, hs, ha, hb => zC8 r (putA t a) (zuw hs) (zKJ (hb t (by simp)) hs ha) fun x hx => hb x (by simp [hx])
theorem zDP {x y : Term} (hx : VT x) (hy : VT y) : GT (ziS x y) := by
 obtain ⟨gx, sx, lx, ex⟩ := hx
 obtain ⟨gy, sy, ly, ey⟩ := hy
 refine ⟨(zzu gx.1 gy.1).1, by have := zAw x.Factors y.Factors; show (zbf x.Factors y.Factors).length ≤ 1000; omega, fun f hf => ?_⟩
 obtain ⟨g, hg, e⟩ := zo8 hf
 have hb := zAH (B := 64) (fun z hz => ⟨(gx.2.2 z hz).2.1, (ex z hz).2⟩) (fun z hz => ⟨(gy.2.2 z hz).2.1, (ey z hz).2⟩) hf
 have hv : (zeF (zbP 9) g.Atom = true ∧ zlm g.Atom ∧ g.Atom.Items.length ≤ 1024) := by
  rcases hg with hg | hg
  ·exact (gx.2.2 g hg).1
  ·exact (gy.2.2 g hg).1
 exact ⟨by rw [e]; exact hv, hb.1, by omega⟩
theorem zGY {a b : List Term} (ha : ∀ t ∈ a, VT t) (hb : ∀ t ∈ b, VT t) : ∀ t ∈ zc6 a b, GT t := fun t ht => by
 obtain ⟨x, hx, y, hy, rfl⟩ := zBL ht
 exact zDP (ha x hx) (hb y hy)
theorem zP3 {x y : Term} (hx : VT x) (hy : VT y) : zkP x.Factors y.Factors = (true, zbf x.Factors y.Factors) := by
 obtain ⟨gx, sx, lx, ex⟩ := hx
 obtain ⟨gy, sy, ly, ey⟩ := hy
 exact zQj (d := 9) (by omega) _ _ (by omega) (fun f hf => ⟨zzj (gx.2.2 f hf).1.1 (gx.2.2 f hf).1.2.2, by have := (gx.2.2 f hf).2; omega⟩) fun f hf => by have := (gy.2.2 f hf).2; omega
theorem zRB (a b : List Term) (i : Int) (x : Term) (hx : VT x) (hb : ∀ t ∈ b, VT t) (hbl : b.length ≤ 512) (terms : List Term) (hl : terms.length ≤ 1000000) (n : Nat) (hn : b.length < n) :
  zy5 n b a a.length i b b.length 0 terms x = (true, (b, a, (a.length : Int), i, terms ++ b.map (ziS x))) := by
 have hreach : zP = 70368744177664 := rfl
 have := zdR (W := znS) (z := default) b.length (fun j => (b, (), (), a, (a.length : Int), i, b, (b.length : Int), (j : Int), ())) (fun j => (terms ++ (b.take j).map (ziS x), x, ())) (fun _ => true) default (b, a, (a.length : Int), i, terms ++ b.map (ziS x))
  (fun j hj H K D => by
   show (zln b a a.length i b b.length j (terms ++ (b.take j).map (ziS x)) x).ev H K D = _
   unfold zln
   have hy := hb _ (zC hj)
   have hr : decide (((terms ++ (b.take j).map (ziS x)).length + 1) * 32 ≤ zP) = true := by simp only [decide_eq_true_eq, List.length_append, List.length_map, List.length_take]; omega
   simp only [Wy.ev_i, Wy.ev_k, Wy.ev_h, Wy.ev_bn, Wy.ev_d, tT, hj, (zKr hx.1.1 hy.1.1).1, zP3 hx hy, List.length_singleton, hr]
   rw [zY (by omega), zj7 hj, List.map_append, ← List.append_assoc]
   rfl)
  (fun H K D => by
   show (zln b a a.length i b b.length b.length (terms ++ (b.take b.length).map (ziS x)) x).ev H K D = _
   unfold zln
   simp only [Wy.ev_i, Wy.ev_k, tT, Nat.lt_irrefl, List.take_length]) n hn
 rw [show allN (fun _ => true) b.length 0 = true from zea.2 fun _ _ _ => rfl] at this
 simp only [List.take_zero, List.map_nil, List.append_nil] at this
 exact this
theorem zRy (a b : List Term) (ha : ∀ t ∈ a, VT t) (hb : ∀ t ∈ b, VT t) (hal : a.length ≤ 512) (hbl : b.length ≤ 512) (n : Nat) (hn : a.length < n) :
  zsz n b a a.length 0 [] = (true, zc6 a b) := by
 have := zdR (W := znT) (z := default) a.length (fun i => (b, (), a, (a.length : Int), (i : Int), ())) (fun i => (zc6 (a.take i) b, ())) (fun _ => true) default (zc6 a b)
  (fun i hi H K D => by
   show (zlf b a a.length i (zc6 (a.take i) b)).ev H K D = _
   unfold zlf
   have hx := ha _ (zC hi)
   have hlen : (zc6 (a.take i) b).length ≤ 1000000 := by
    rw [zFu, List.length_take]
    have := Nat.mul_le_mul (show min i a.length ≤ 512 by omega) hbl
    omega
   simp only [Wy.ev_i, Wy.ev_k, Wy.ev_h, Wy.ev_bn, Wy.ev_d, tT, hi]
   rw [zRB a b i _ hx hb hbl _ hlen _ (by omega)]
   simp only [cond_true]
   rw [zY (by omega), zj7 hi]
   have e : zc6 (a.take i ++ [a.getD i default]) b = zc6 (a.take i) b ++ b.map (ziS (a.getD i default)) := by
    unfold zc6; rw [List.flatMap_append]; simp
   rw [e])
  (fun H K D => by
   show (zlf b a a.length a.length (zc6 (a.take a.length) b)).ev H K D = _
   unfold zlf
   simp only [Wy.ev_i, Wy.ev_k, tT, Nat.lt_irrefl, List.take_length]) n hn
 rw [show allN (fun _ => true) a.length 0 = true from zea.2 fun _ _ _ => rfl] at this
 exact this
theorem szTs_get' (a : List Term) (i : Nat) (h : i < a.length) : (a.getD i default).Factors.length ≤ szTs a := zAz a i h
theorem zPm (a b : List Term) (i : Int) (k : Nat) (hk : k < b.length) (out : List Term) (c : Int) (x : Term) (hx : VT x) (hy : VT (b.getD k default)) (n : Nat) (hn : (b.getD k default).Factors.length < n) :
  zyX n a b i k 0 out c x.Factors = (true, (a, b, i, (k : Int), out, c, zbf x.Factors (b.getD k default).Factors)) := by
 obtain ⟨gx, sx, lx, ex⟩ := hx
 obtain ⟨gy0, sy, ly, ey⟩ := hy
 have gy : ∀ f ∈ (b.getD k default).Factors, GF f := gy0.2.2
 have sy : Srf (b.getD k default).Factors := sy
 clear gy0
 generalize hF : (b.getD k default).Factors = F at *
 have key : ∀ j, j < F.length → facA (F.getD j default) (zbf x.Factors (F.take j)) = zbf x.Factors (F.take (j + 1)) := fun j hj => by
  have e1 := zDp (F.take j) x.Factors (sy.sublist (List.take_sublist _ _)) (fun z hz => (ex z hz).1) fun z hz => (ey z (List.mem_of_mem_take hz)).1
  have e2 := zDp (F.take (j + 1)) x.Factors (sy.sublist (List.take_sublist _ _)) (fun z hz => (ex z hz).1) fun z hz => (ey z (List.mem_of_mem_take hz)).1
  rw [← e1, ← e2, zj7 hj, List.foldl_append]; rfl
 have := zdR (W := zyU) (z := default) F.length (fun j => (a, b, (), i, (k : Int), (), (j : Int), ())) (fun j => (out, (c, zbf x.Factors (F.take j), ()), ())) (fun _ => true) default (a, b, i, (k : Int), out, c, zbf x.Factors F)
  (fun j hj H K D => by
   show (zlr a b i k j out c (zbf x.Factors (F.take j))).ev H K D = _
   unfold zlr
   have hlen := zAw x.Factors (F.take j)
   rw [List.length_take] at hlen
   have hex := fun z (hz : z ∈ zbf x.Factors (F.take j)) => zAH (B := 64) (fun z hz => ⟨(gx.2.2 z hz).2.1, (ex z hz).2⟩) (fun z hz => ⟨(gy z (List.mem_of_mem_take hz)).2.1, (ey z (List.mem_of_mem_take hz)).2⟩) hz
   have hfine : ∀ z ∈ zbf x.Factors (F.take j), zdL (zA 9) z.Atom := fun z hz => by
    obtain ⟨w, hw, e⟩ := zo8 hz
    rw [e]
    rcases hw with hw | hw
    ·exact zzj (gx.2.2 w hw).1.1 (gx.2.2 w hw).1.2.2
    ·exact zzj (gy w (List.mem_of_mem_take hw)).1.1 (gy w (List.mem_of_mem_take hw)).1.2.2
   have hm := zC hj
   have e1 : decide ((k : Int) < Int.ofNat b.length) = true := by simp [hk]
   have e2 : decide ((j : Int) < Int.ofNat F.length) = true := by simp [hj]
   have efx : (FactorOf.mk (F.getD j default).Atom (F.getD j default).Exp : Factor) = F.getD j default := rfl
   simp only [Atom.eta, Wy.ev_i, Wy.ev_k, Wy.ev_h, Wy.ev_bn, Wy.ev_d, zfe, Bool.and_self, cond_true, Int.toNat_natCast, hF, e1, e2, efx]
   rw [zQJ (d := 9) _ _ (by omega) hfine (by omega) (fun z hz => by have := hex z hz; omega) (by have := (gy _ hm).2; omega), cond_true, zY (by omega), key j hj])
  (fun H K D => by
   show (zlr a b i k F.length out c (zbf x.Factors (F.take F.length))).ev H K D = _
   unfold zlr
   have e1 : decide ((k : Int) < Int.ofNat b.length) = true := by simp [hk]
   have e2 : decide ((F.length : Int) < Int.ofNat F.length) = false := by simp
   simp only [Wy.ev_i, Wy.ev_k, zfe, Bool.and_self, cond_true, cond_false, Int.toNat_natCast, hF, e1, e2, List.take_length]) n hn
 rw [show allN (fun _ => true) F.length 0 = true from zea.2 fun _ _ _ => rfl] at this
 simp only [List.take_zero, zxN] at this
 exact this
theorem zQt (a b : List Term) (i : Nat) (hi : i < a.length) (hal : a.length ≤ 512) (hbl : b.length ≤ 512) (hx : VT (a.getD i default)) (hb : ∀ t ∈ b, VT t) (out : List Term) (ho : out.length ≤ i * 512) (hs : Srs out) (hg : ∀ t ∈ out, GT t) (n : Nat) (hn : b.length < n) :
  zzM n a b i 0 out = (true, (a, b, (i : Int), sumA out (b.map (ziS (a.getD i default))))) := by
 have := zcv (W := zA1) (z := default) (l := b) (fun k (o : List Term) => (a, b, (), (i : Int), (k : Int), ())) (fun _ o => (o, ())) (fun y o => .inl (putA (ziS (a.getD i default) y) o)) (fun o => (a, b, (i : Int), o)) (fun k o => (o.length ≤ i * 512 + k ∧ Srs o) ∧ ∀ t ∈ o, GT t)
  (fun k o hk hI => .inl ⟨_, rfl, ⟨⟨by have := zFZ (t := ziS (a.getD i default) (b.getD k default)) o; omega, zuw hI.1.2⟩, zKJ (zDP hx (hb _ (zC hk))) hI.1.2 hI.2⟩, fun H K D => by
   show (zmu a b i k o).ev H K D = _
   unfold zmu
   have hy := hb _ (zC hk)
   have hsz := szTs_get' b k hk
   simp only [Wy.ev_i, Wy.ev_k, Wy.ev_h, Wy.ev_bn, Wy.ev_d, tT, hk, hi, (zKr hx.1.1 hy.1.1).2]
   rw [zPm a b i k hk o _ _ hx hy _ (by omega)]
   simp only [cond_true]
   have e : (TermOf.mk (zoi (a.getD i default).Coeff (b.getD k default).Coeff) (zbf (a.getD i default).Factors (b.getD k default).Factors) : Term) = ziS (a.getD i default) (b.getD k default) := rfl
   have hg := zDP hx hy
   rw [e, zMi (d := 9) o _ (by omega) (fun z hz => (hI.2 z hz).fine) (by omega) (fun z hz => (hI.2 z hz).1) hg.1]
   simp only [cond_true]
   rw [zY (by omega)]⟩)
  (fun o hI H K D => by
   show (zmu a b i b.length o).ev H K D = _
   unfold zmu
   simp only [Wy.ev_i, Wy.ev_k, tT, Nat.lt_irrefl]) n 0 out (by omega) (by omega) (show (out.length ≤ i * 512 + 0 ∧ Srs out) ∧ ∀ t ∈ out, GT t from ⟨⟨Nat.le_trans ho (Nat.le_add_right _ _), hs⟩, hg⟩)
 rw [List.drop_zero, zcs] at this
 have e : ∀ (l : List Term) (o : List Term), l.foldl (fun s t => putA (ziS (a.getD i default) t) s) o = sumA o (l.map (ziS (a.getD i default))) := fun l => by
  induction l with
  | nil => intro o; rfl
  | cons y r ih => intro o; rw [List.foldl_cons, ih]; rfl
 rw [e] at this
 exact this
theorem zLU (o : List Term) (b : List Term) (x : Term) : (sumA o (b.map (ziS x))).length ≤ o.length + b.length := by
 have := zzK (b.map (ziS x)) o
 rwa [List.length_map] at this
theorem zPp (a b : List Term) (ha : ∀ t ∈ a, VT t) (hb : ∀ t ∈ b, VT t) (hal : a.length ≤ 512) (hbl : b.length ≤ 512) : zyL a b = (true, zfS a b) := by
 unfold zyL zBG
 have := zcv (W := zAO) (z := default) (l := a) (fun i (o : List Term) => (a, b, (), (i : Int), ())) (fun _ o => (o, ())) (fun x o => .inl (sumA o (b.map (ziS x)))) (fun o => o) (fun i o => (o.length ≤ i * 512 ∧ Srs o) ∧ ∀ t ∈ o, GT t)
  (fun i o hi hI => .inl ⟨_, rfl, ⟨⟨by have := zLU o b (a.getD i default); omega, zzL _ _ hI.1.2⟩, zC8 _ _ hI.1.2 hI.2 fun t ht => by
    obtain ⟨y, hy, rfl⟩ := List.mem_map.1 ht
    exact zDP (ha _ (zC hi)) (hb y hy)⟩, fun H K D => by
   show (zmi a b i o).ev H K D = _
   unfold zmi
   have e1 : decide ((i : Int) < Int.ofNat a.length) = true := by simp [hi]
   simp only [Wy.ev_i, Wy.ev_k, Wy.ev_h, Wy.ev_bn, Wy.ev_d, e1, cond_true]
   rw [zQt a b i hi hal hbl (ha _ (zC hi)) hb o hI.1.1 hI.1.2 hI.2 _ (by omega)]
   simp only [cond_true]
   rw [zY (by omega)]⟩)
  (fun o hI H K D => by
   show (zmi a b a.length o).ev H K D = _
   unfold zmi
   have e1 : decide ((a.length : Int) < Int.ofNat a.length) = false := by simp
   simp only [Wy.ev_i, Wy.ev_k, e1, cond_false]) ((a.length + b.length + Int.toNat (0 : Int) + (0 : Nat) + (1 : Nat)) + szTs a + szTs b + szTs []) 0 [] (by omega) (by omega) ⟨⟨by simp, .nil⟩, fun t ht => by cases ht⟩
 rw [List.drop_zero, zcs] at this
 have e : ∀ (l : List Term) (o : List Term), l.foldl (fun s x => sumA s (b.map (ziS x))) o = sumA o (zc6 l b) := fun l => by
  induction l with
  | nil => intro o; rfl
  | cons y r ih =>
   intro o
   rw [List.foldl_cons, ih]
   show _ = (zc6 (y :: r) b).foldl (fun a t => putA t a) o
   unfold zc6
   rw [List.flatMap_cons, List.foldl_append]; rfl
 rw [e] at this
 have this : zAf ((a.length + b.length + Int.toNat (0 : Int) + (0 : Nat) + (1 : Nat)) + szTs a + szTs b + szTs []) a b 0 [] = (true, zfS a b) := this
 rw [Wy.fin_bn, this]; rfl
theorem zQc (a b : List Term) (ha : ∀ t ∈ a, GT t) (hb : ∀ t ∈ b, GT t) (hs : Srs a) (hal : a.length ≤ 512) (hbl : b.length ≤ 512) : zFD a b = (true, sumA a b) := by
 unfold zFD zGs
 have := zcv (W := zFp) (z := default) (l := b) (fun i (o : List Term) => (o, b, (i : Int), ())) (fun _ o => ()) (fun x o => .inl (putA x o)) (fun o => o) (fun i o => (o.length ≤ 512 + i ∧ Srs o) ∧ ∀ t ∈ o, GT t)
  (fun i o hi hI => .inl ⟨_, rfl, ⟨⟨by have := zFZ (t := b.getD i default) o; omega, zuw hI.1.2⟩, zKJ (hb _ (zC hi)) hI.1.2 hI.2⟩, fun H K D => by
   show (zq3 o b i).ev H K D = _
   unfold zq3
   simp only [Wy.ev_i, Wy.ev_k, Wy.ev_h, Wy.ev_bn, Wy.ev_d, tT, hi]
   rw [zMi (d := 9) o _ (by omega) (fun z hz => (hI.2 z hz).fine) (by omega) (fun z hz => (hI.2 z hz).1) (hb _ (zC hi)).1, cond_true, zY (by omega)]⟩)
  (fun o hI H K D => by
   show (zq3 o b b.length).ev H K D = _
   unfold zq3
   simp only [Wy.ev_i, Wy.ev_k, tT, Nat.lt_irrefl]) (a.length + b.length + Int.toNat (0 : Int) + (1 : Nat)) 0 a (by omega) (by omega) ⟨⟨by omega, hs⟩, ha⟩
 rw [List.drop_zero, zcs] at this
 have this : zEZ (a.length + b.length + Int.toNat (0 : Int) + (1 : Nat)) a b 0 = (true, sumA a b) := this
 rw [Wy.fin_bn, this]; rfl
def okA (a : List Term) : Prop := (zA 12 a ∧ zK a ≤ 4611686018427387904) ∧ zhZ a ∧ a.length ≤ roomLen
def opR (ok : Bool) (r : List Term × Int) : List Term × Int := bif ok then r else ([], 1)
def addR (a b : List Term) : List Term × Int := opR (zbH a && zbH b) (fitR (sumA a b))
def mulR (a b : List Term) : List Term × Int := opR (zbH a && zbH b) (fitR (zfS a b))
theorem okA.valid {a : List Term} (h : okA a) : zbE a = (true, zbH a) := zN4 h.1.1 (by omega) h.1.2
theorem okA.rvalid {a : List Term} (h : okA a) : zpV a = (true, zbH a) := zNa h.1.1 (by omega) h.1.2
theorem zzV {a b : List Term} (ha : okA a) (hb : okA b) : zd5 a b = (true, addR a b) ∧ zJC a b = (true, addR a b) := by
 unfold zd5 ztG zJC zGn addR
 simp only [Wy.fin_bn, Wy.fin_i, Wy.fin_k, ha.valid, hb.valid, ha.rvalid, hb.rvalid, cond_true]
 cases va : zbH a with
 | false => first | exact ⟨trivial, trivial⟩ | exact ⟨rfl, rfl⟩ | exact ⟨trivial, rfl⟩ | exact ⟨rfl, trivial⟩
 | true =>
  cases vb : zbH b with
  | false => first | exact ⟨trivial, trivial⟩ | exact ⟨rfl, rfl⟩ | exact ⟨trivial, rfl⟩ | exact ⟨rfl, trivial⟩
  | true =>
   obtain ⟨sa, la, ta⟩ := zqO va ha.2.1
   obtain ⟨sb, lb, tb⟩ := zqO vb hb.2.1
   have ga : ∀ t ∈ a, GT t := fun t ht => (ta t ht).1
   have gb : ∀ t ∈ b, GT t := fun t ht => (tb t ht).1
   have hc := zPe [a, b] (by simp) (fun l hl => by
    simp only [List.mem_cons, List.not_mem_nil, or_false] at hl
    rcases hl with rfl | rfl <;> omega)
   have e : [a, b].flatten = a ++ b := by simp
   have hcol := zIi (a ++ b) (by simp; omega) fun t ht => by
    rcases List.mem_append.1 ht with ht | ht
    ·exact ga t ht
    ·exact gb t ht
   rw [e] at hc
   rw [zQu a b sa] at hcol
   have hsl : (sumA a b).length ≤ 1000000 := by have := zzK b a; omega
   obtain ⟨f1, f2⟩ := zKB hsl (zC8 b a sa ga gb)
   simp only [Bool.not_true, cond_false, Bool.and_self, hc, hcol, zH3 f1 (by omega : 10 ≤ 100) f2, zQc a b ga gb sa la lb, zOa f1 (by omega : 10 ≤ 100) f2, cond_true]
   first | exact ⟨trivial, trivial⟩ | exact ⟨rfl, rfl⟩ | exact ⟨trivial, rfl⟩ | exact ⟨rfl, trivial⟩
theorem zu3 {a b : List Term} (ha : okA a) (hb : okA b) : zc8 a b = (true, mulR a b) ∧ zJa a b = (true, mulR a b) := by
 unfold zc8 ztL zJa zGz mulR
 simp only [Wy.fin_bn, Wy.fin_i, Wy.fin_k, ha.valid, hb.valid, ha.rvalid, hb.rvalid, cond_true]
 cases va : zbH a with
 | false => first | exact ⟨trivial, trivial⟩ | exact ⟨rfl, rfl⟩ | exact ⟨trivial, rfl⟩ | exact ⟨rfl, trivial⟩
 | true =>
  cases vb : zbH b with
  | false => first | exact ⟨trivial, trivial⟩ | exact ⟨rfl, rfl⟩ | exact ⟨trivial, rfl⟩ | exact ⟨rfl, trivial⟩
  | true =>
   obtain ⟨sa, la, ta⟩ := zqO va ha.2.1
   obtain ⟨sb, lb, tb⟩ := zqO vb hb.2.1
   have hm := zRy a b ta tb la lb (b.length + a.length + (Int.ofNat a.length).toNat + Int.toNat (0 : Int) + (0 : Nat) + (1 : Nat)) (by omega)
   have hm : zsz (b.length + a.length + (Int.ofNat a.length).toNat + Int.toNat (0 : Int) + (0 : Nat) + (1 : Nat)) b a (Int.ofNat a.length) 0 [] = _ := hm
   have hpl : (zc6 a b).length ≤ 1000000 := by rw [zFu]; have := Nat.mul_le_mul la lb; omega
   have hcol := zIi (zc6 a b) hpl (zGY ta tb)
   have hsl : (zfS a b).length ≤ 1000000 := by have := zzK (zc6 a b) []; simp at this; exact Nat.le_trans this hpl
   obtain ⟨f1, f2⟩ := zKB hsl (zC8 (zc6 a b) [] .nil (fun t ht => by cases ht) (zGY ta tb))
   have f1 : zA 10 (zfS a b) := f1
   have f2 : zK (zfS a b) ≤ 4611686018427387904 := f2
   have hcol : zgK (zc6 a b) = (true, zfS a b) := hcol
   simp only [Bool.not_true, cond_false, Bool.and_self, hm, hcol, zH3 f1 (by omega : 10 ≤ 100) f2, zPp a b ta tb la lb, zOa f1 (by omega : 10 ≤ 100) f2, cond_true]
   first | exact ⟨trivial, trivial⟩ | exact ⟨rfl, rfl⟩ | exact ⟨trivial, rfl⟩ | exact ⟨rfl, trivial⟩
theorem zOd {n : Int} (h : rng n) : wf3 n := by
 show (Lit.int .i64 n).wf = true
 have : IntKind.i64.min ≤ n ∧ n ≤ IntKind.i64.max := ⟨h.1, h.2⟩
 simpa [Lit.wf] using this
theorem zOj {t : Term} (hc : rng t.Coeff) (hf : ∀ f ∈ t.Factors, zlm f.Atom ∧ rng f.Exp) (hl : t.Factors.length ≤ 1000000) : zsR t := by
 obtain ⟨c, fs⟩ := t
 unfold zsR
 refine ⟨zOd hc, zA0 fs fun f h => ?_, by have : roomLen = 140737488351232 := rfl; simp only at hl; omega⟩
 obtain ⟨x, e⟩ := f
 unfold zo1
 exact ⟨(hf _ h).1, zOd (hf _ h).2⟩
def okR (r : List Term × Int) : Prop := okA r.1 ∧ (r.2 = 0 ∨ r.1 = [])
theorem zF7 : okA [] := ⟨⟨zOO 11, by rw [zuW]; omega⟩, by unfold zhZ; trivial, by simp⟩
theorem zMb {a : List Term} (h : okA a) : okR (fitR a) := by
 unfold fitR
 cases zhG a with
 | true => exact ⟨h, .inl rfl⟩
 | false => exact ⟨zF7, .inr rfl⟩
theorem zOJ {ok : Bool} {r : List Term × Int} (h : ok = true → okR r) : okR (opR ok r) := by
 unfold opR
 cases ok with
 | true => exact h rfl
 | false => exact ⟨zF7, .inr rfl⟩
theorem zIT {l : List Term} (hl : l.length ≤ 1000000) (h : ∀ t ∈ l, GT t) : okA l := by
 obtain ⟨h1, h2⟩ := zKB hl h
 refine ⟨⟨h1.mono (by omega), h2⟩, zG6 l fun t ht => ?_, by have : roomLen = 140737488351232 := rfl; omega⟩
 have hg := h t ht
 exact zOj ⟨by have := hg.1.1; omega, by have := hg.1.2; omega⟩ (fun f hf => ⟨(hg.2.2 f hf).1.2.1, (hg.2.2 f hf).gF.2.2⟩) (by have := hg.2.1; omega)
theorem zCv {a b : List Term} (ha : okA a) (hb : okA b) : okR (addR a b) := zOJ fun hv => by
 rw [Bool.and_eq_true] at hv
 obtain ⟨sa, la, ta⟩ := zqO hv.1 ha.2.1
 obtain ⟨sb, lb, tb⟩ := zqO hv.2 hb.2.1
 exact zMb (zIT (by have := zzK b a; omega) (zC8 b a sa (fun t ht => (ta t ht).1) fun t ht => (tb t ht).1))
theorem zwt {a b : List Term} (ha : okA a) (hb : okA b) : okR (mulR a b) := zOJ fun hv => by
 rw [Bool.and_eq_true] at hv
 obtain ⟨sa, la, ta⟩ := zqO hv.1 ha.2.1
 obtain ⟨sb, lb, tb⟩ := zqO hv.2 hb.2.1
 have hpl : (zc6 a b).length ≤ 1000000 := by rw [zFu]; have := Nat.mul_le_mul la lb; omega
 exact zMb (zIT (by have := zzK (zc6 a b) []; simp at this; exact Nat.le_trans this hpl) (zC8 (zc6 a b) [] .nil (fun t ht => by cases ht) (zGY ta tb)))
theorem zQf (c : Int) (hc : 1 ≤ c ∧ c ≤ 1152921504606846976) : okA [⟨c, []⟩] := zIT (by simp) fun t ht => by
 rw [List.mem_singleton] at ht; subst ht
 exact ⟨hc, by simp, fun f hf => by cases hf⟩
theorem okR.same {r : List Term × Int} (h : okR r) : zDs r.1 r.2 r.1 r.2 = (true, true) := zQq h.1.1.1 (by omega) h.2
theorem zIE {a : List Term} {n : Nat} (hn : n ≤ 1000) (h : zA 12 a ∧ zfI a ≤ n) (hw : wf23 a) : okA a := ⟨⟨h.1, by have := zzw a; omega⟩, hw.1, hw.2⟩
theorem zIm {α : Type} {R : α → α → Prop} (ir : ∀ x, ¬ R x x) (asy : ∀ x y, R x y → ¬ R y x) : ∀ (a b : List α), a.Pairwise R → b.Pairwise R → (∀ x, x ∈ a ↔ x ∈ b) → a = b
 | [], [], _, _, _ => rfl
 | [], y :: b, _, _, h => by have := (h y).2 (by simp); cases this
 | x :: a, [], _, _, h => by have := (h x).1 (by simp); cases this
 | x :: a, y :: b, ha, hb, h => by
  have ca := List.pairwise_cons.1 ha
  have cb := List.pairwise_cons.1 hb
  have e : x = y := by
   rcases List.mem_cons.1 ((h x).1 (by simp)) with e | hx
   ·exact e
   ·rcases List.mem_cons.1 ((h y).2 (by simp)) with e | hy
    ·exact e.symm
    ·exact absurd (cb.1 x hx) (asy _ _ (ca.1 y hy))
  subst e
  rw [zIm ir asy a b ca.2 cb.2 fun z => ⟨fun hz => ?_, fun hz => ?_⟩]
  ·rcases List.mem_cons.1 ((h z).1 (by simp [hz])) with rfl | h1
   ·exact absurd (ca.1 z hz) (ir z)
   ·exact h1
  ·rcases List.mem_cons.1 ((h z).2 (by simp [hz])) with rfl | h1
   ·exact absurd (cb.1 z hz) (ir z)
   ·exact h1
def exA (x : Atom) : List Factor → Int
 | [] => 0
 | f :: r => (if f.Atom = x then f.Exp else 0) + exA x r
theorem ztD (x : Atom) (f : Factor) (r : List Factor) : exA x (f :: r) = (if f.Atom = x then f.Exp else 0) + exA x r := rfl
def MF (l : List Factor) : Prop := Srf l ∧ ∀ f ∈ l, eOK f ∧ 1 ≤ f.Exp
theorem MF.tail {f : Factor} {l : List Factor} (h : MF (f :: l)) : MF l := ⟨(List.pairwise_cons.1 h.1).2, fun g hg => h.2 g (by simp [hg])⟩
theorem MF.nil : MF [] := ⟨List.Pairwise.nil, fun f hf => by cases hf⟩
theorem zGT {x : Atom} : ∀ {l : List Factor}, (∀ f ∈ l, f.Atom ≠ x) → exA x l = 0
 | [], _ => rfl
 | f :: r, h => by rw [exA, if_neg (h f (by simp)), zGT fun g hg => h g (by simp [hg])]; rfl
theorem cF_self' {x y : Factor} (h : x.Atom = y.Atom) : cF x y = 0 := by unfold cF; rw [h]; exact zJw _
theorem MF.ne {f : Factor} {l : List Factor} (h : MF (f :: l)) : ∀ g ∈ l, g.Atom ≠ f.Atom := fun g hg e => by
 have := (List.pairwise_cons.1 h.1).1 g hg
 rw [cF_self' e.symm] at this; omega
theorem zF3 {f : Factor} : ∀ {l : List Factor}, MF l → f ∈ l → exA f.Atom l = f.Exp
 | [], _, h => by cases h
 | g :: r, h, hf => by
  rw [exA]
  rcases List.mem_cons.1 hf with rfl | hf
  ·rw [if_pos rfl, zGT h.ne]; omega
  ·rw [if_neg (fun e => h.ne f hf e.symm), zF3 h.tail hf]; omega
theorem zGb {x : Atom} : ∀ {l : List Factor}, MF l → (0 ≤ exA x l ∧ (exA x l ≠ 0 → ∃ f ∈ l, f.Atom = x))
 | [], _ => ⟨Int.le_refl _, fun h => absurd rfl h⟩
 | g :: r, h => by
  rw [exA]
  have := zGb (x := x) h.tail
  have := (h.2 g (by simp)).2
  by_cases e : g.Atom = x
  ·rw [if_pos e]
   exact ⟨by omega, fun _ => ⟨g, by simp, e⟩⟩
  ·rw [if_neg e]
   refine ⟨by omega, fun h1 => ?_⟩
   obtain ⟨f, hf, e⟩ := (zGb (x := x) h.tail).2 (by omega)
   exact ⟨f, by simp [hf], e⟩
theorem zKR {x : Atom} {l : List Factor} (h : MF l) (hx : x.Kind = 3 ∨ x.Kind = 4) : exA x l = 0 ∨ exA x l = 1 := by
 by_cases h0 : exA x l = 0
 ·exact .inl h0
 ·obtain ⟨f, hf, rfl⟩ := (zGb h).2 h0
  rw [zF3 h hf]
  exact .inr ((h.2 f hf).1.2 hx)
theorem zN7 {x y : Factor} (h1 : x.Atom = y.Atom) (h2 : x.Exp = y.Exp) : x = y := by cases x; cases y; simp_all
theorem zOz {a b : List Factor} (ha : MF a) (hb : MF b) (h : ∀ x, exA x a = exA x b) : a = b := by
 refine zIm (R := fun x y => cF x y < 0) (fun x => by rw [cF_self' rfl]; omega) (fun x y h => by rw [zIY x y]; omega) a b ha.1 hb.1 fun f => ?_
 have key : ∀ {a b : List Factor}, MF a → MF b → (∀ x, exA x a = exA x b) → f ∈ a → f ∈ b := fun {a b} ha hb h hf => by
  have e := h f.Atom
  rw [zF3 ha hf] at e
  have h1 := (ha.2 f hf).2
  obtain ⟨g, hg, e2⟩ := (zGb (x := f.Atom) hb).2 (by omega)
  rw [← e2, zF3 hb hg] at e
  rw [zN7 e2.symm e]; exact hg
 exact ⟨key ha hb h, key hb ha fun x => (h x).symm⟩
def cbE (x : Atom) (m n : Int) : Int := if x.Kind = 3 ∨ x.Kind = 4 then (if m = 0 then n else m) else m + n
theorem zPB {a b : List Factor} : Srf a → Srf b → Srf (zbf a b) := by
 induction a, b using zbf.induct with
 | case1 b => intro _ hb; rw [zbf]; exact hb
 | case2 x a => intro ha _; rw [zbf]; exact ha
 | case3 x a y b h ih =>
  intro ha hb
  have ca := List.pairwise_cons.1 ha
  rw [zbf, if_pos h]
  refine List.pairwise_cons.2 ⟨fun z hz => ?_, ih ca.2 hb⟩
  obtain ⟨w, hw, e⟩ := zo8 hz
  have : cF x z = cF x w := by unfold cF; rw [e]
  rw [this]
  rcases hw with hw | hw
  ·exact ca.1 w hw
  ·rcases List.mem_cons.1 hw with rfl | hw
   ·exact h
   ·exact zqS h ((List.pairwise_cons.1 hb).1 w hw)
 | case4 x a y b h h2 ih =>
  intro ha hb
  have cb := List.pairwise_cons.1 hb
  rw [zbf, if_neg h, if_pos h2]
  have h3 : cF y x < 0 := by rw [zIY x y]; omega
  refine List.pairwise_cons.2 ⟨fun z hz => ?_, ih ha cb.2⟩
  obtain ⟨w, hw, e⟩ := zo8 hz
  have : cF y z = cF y w := by unfold cF; rw [e]
  rw [this]
  rcases hw with hw | hw
  ·rcases List.mem_cons.1 hw with rfl | hw
   ·exact h3
   ·exact zqS h3 ((List.pairwise_cons.1 ha).1 w hw)
  ·exact cb.1 w hw
 | case5 x a y b h h2 ih =>
  intro ha hb
  have ca := List.pairwise_cons.1 ha
  have cb := List.pairwise_cons.1 hb
  have h0 : x.Atom = y.Atom := zIU (by omega)
  rw [zbf, if_neg h, if_neg h2]
  have hA : (if x.Atom.Kind = 3 ∨ x.Atom.Kind = 4 then x else ⟨x.Atom, x.Exp + y.Exp⟩ : Factor).Atom = x.Atom := by split <;> rfl
  refine List.pairwise_cons.2 ⟨fun z hz => ?_, ih ca.2 cb.2⟩
  obtain ⟨w, hw, e⟩ := zo8 hz
  have : cF (if x.Atom.Kind = 3 ∨ x.Atom.Kind = 4 then x else ⟨x.Atom, x.Exp + y.Exp⟩ : Factor) z = cF x w := by unfold cF; rw [e, hA]
  rw [this]
  rcases hw with hw | hw
  ·exact ca.1 w hw
  ·have : cF x w = cF y w := by unfold cF; rw [h0]
   rw [this]; exact cb.1 w hw
theorem zOT {a b : List Factor} : (∀ f ∈ a, eOK f ∧ 1 ≤ f.Exp) → (∀ f ∈ b, eOK f ∧ 1 ≤ f.Exp) → ∀ f ∈ zbf a b, eOK f ∧ 1 ≤ f.Exp := by
 induction a, b using zbf.induct with
 | case1 b => intro _ hb; rw [zbf]; exact hb
 | case2 x a => intro ha _; rw [zbf]; exact ha
 | case3 x a y b h ih =>
  intro ha hb f hf
  rw [zbf, if_pos h] at hf
  rcases List.mem_cons.1 hf with rfl | hf
  ·exact ha _ (by simp)
  ·exact ih (fun g hg => ha g (by simp [hg])) hb f hf
 | case4 x a y b h h2 ih =>
  intro ha hb f hf
  rw [zbf, if_neg h, if_pos h2] at hf
  rcases List.mem_cons.1 hf with rfl | hf
  ·exact hb _ (by simp)
  ·exact ih ha (fun g hg => hb g (by simp [hg])) f hf
 | case5 x a y b h h2 ih =>
  intro ha hb f hf
  rw [zbf, if_neg h, if_neg h2] at hf
  rcases List.mem_cons.1 hf with rfl | hf
  ·have h1 := ha x (by simp)
   have h2 := hb y (by simp)
   split
   ·exact h1
   ·rename_i hk
    exact ⟨⟨h1.1.1, fun h => absurd h hk⟩, by show 1 ≤ x.Exp + y.Exp; omega⟩
  ·exact ih (fun g hg => ha g (by simp [hg])) (fun g hg => hb g (by simp [hg])) f hf
theorem zpP {a b : List Factor} (ha : MF a) (hb : MF b) : MF (zbf a b) := ⟨zPB ha.1 hb.1, zOT ha.2 hb.2⟩
theorem zNo (x : Atom) (n : Int) : cbE x 0 n = n := by unfold cbE; split <;> simp
theorem cbE_0' (x : Atom) (n : Int) : cbE x n 0 = n := by unfold cbE; split <;> simp; omega
theorem zCZ {x : Factor} {l : List Factor} (h : ∀ z ∈ l, cF x z < 0) : exA x.Atom l = 0 := zGT fun f hf e => by
 have := h f hf; rw [cF_self' e.symm] at this; omega
theorem zzH (x : Atom) {a b : List Factor} : MF a → MF b → exA x (zbf a b) = cbE x (exA x a) (exA x b) := by
 induction a, b using zbf.induct with
 | case1 b => intro _ hb; rw [zbf, exA, zNo]
 | case2 y a => intro ha _; rw [zbf, show exA x [] = 0 from rfl, cbE_0']
 | case3 u a y b h ih =>
  intro ha hb
  rw [zbf, if_pos h, ztD, ztD x u a, ih ha.tail hb]
  by_cases e : u.Atom = x
  ·subst e
   have h1 : exA u.Atom a = 0 := zCZ (List.pairwise_cons.1 ha.1).1
   have h2 : exA u.Atom (y :: b) = 0 := zCZ fun z hz => by
    rcases List.mem_cons.1 hz with rfl | hz
    ·exact h
    ·exact zqS h ((List.pairwise_cons.1 hb.1).1 z hz)
   rw [h1, h2, cbE_0', cbE_0']
  ·rw [if_neg e, Int.zero_add, Int.zero_add]
 | case4 u a y b h h2 ih =>
  intro ha hb
  have h3 : cF y u < 0 := by rw [zIY u y]; omega
  rw [zbf, if_neg h, if_pos h2, ztD, ztD x y b, ih ha hb.tail]
  by_cases e : y.Atom = x
  ·subst e
   have h1 : exA y.Atom b = 0 := zCZ (List.pairwise_cons.1 hb.1).1
   have h2 : exA y.Atom (u :: a) = 0 := zCZ fun z hz => by
    rcases List.mem_cons.1 hz with rfl | hz
    ·exact h3
    ·exact zqS h3 ((List.pairwise_cons.1 ha.1).1 z hz)
   rw [h1, h2, zNo, zNo]
  ·rw [if_neg e, Int.zero_add, Int.zero_add]
 | case5 u a y b h h2 ih =>
  intro ha hb
  have h0 : u.Atom = y.Atom := zIU (by omega)
  rw [zbf, if_neg h, if_neg h2, ztD, ztD x u a, ztD x y b, ih ha.tail hb.tail]
  have h1 := ha.2 u (by simp)
  by_cases e : u.Atom = x
  ·subst e
   have z1 : exA u.Atom a = 0 := zCZ (List.pairwise_cons.1 ha.1).1
   have z2 : exA u.Atom b = 0 := by rw [h0]; exact zCZ (List.pairwise_cons.1 hb.1).1
   rw [z1, z2, if_pos rfl, if_pos h0.symm]
   by_cases hk : u.Atom.Kind = 3 ∨ u.Atom.Kind = 4
   ·have n0 : ¬ u.Exp + 0 = 0 := by omega
    simp only [cbE, if_pos hk, if_neg n0, if_true]
   ·simp only [cbE, if_neg hk, if_true]
    omega
  ·have e' : ¬ y.Atom = x := fun h => e (h0.trans h)
   have hA : (if u.Atom.Kind = 3 ∨ u.Atom.Kind = 4 then u else ⟨u.Atom, u.Exp + y.Exp⟩ : Factor).Atom = u.Atom := by split <;> rfl
   simp only [hA, e, e', if_false, Int.zero_add]
theorem zOI {a b : List Factor} (ha : MF a) (hb : MF b) : zbf a b = zbf b a := zOz (zpP ha hb) (zpP hb ha) fun x => by
 rw [zzH x ha hb, zzH x hb ha]
 unfold cbE
 split
 ·rename_i hk
  rcases zKR ha hk with e | e <;> rcases zKR hb hk with e' | e' <;> simp [e, e']
 ·omega
theorem zMH {a b c : List Factor} (ha : MF a) (hb : MF b) (hc : MF c) : zbf (zbf a b) c = zbf a (zbf b c) := zOz (zpP (zpP ha hb) hc) (zpP ha (zpP hb hc)) fun x => by
 rw [zzH x (zpP ha hb) hc, zzH x ha hb, zzH x ha (zpP hb hc), zzH x hb hc]
 unfold cbE
 split
 ·by_cases h : exA x a = 0 <;> simp [h]
 ·omega
def EqS (n m : Nat) : Prop := n = m ∨ (1152921504606846976 ≤ n ∧ 1152921504606846976 ≤ m)
theorem EqS.refl (n : Nat) : EqS n n := .inl rfl
theorem EqS.symm {n m : Nat} (h : EqS n m) : EqS m n := by unfold EqS at *; omega
theorem EqS.trans {n m k : Nat} (h : EqS n m) (h' : EqS m k) : EqS n k := by unfold EqS at *; omega
theorem EqS.add {n m n' m' : Nat} (h : EqS n n') (h' : EqS m m') : EqS (n + m) (n' + m') := by unfold EqS at *; omega
theorem EqS.mul1 {n n' : Nat} (k : Nat) (h : EqS n n') : EqS (n * k) (n' * k) := by
 rcases h with rfl | ⟨h1, h2⟩
 ·exact .refl _
 ·rcases Nat.eq_zero_or_pos k with rfl | hk
  ·exact .inl (by simp)
  ·exact .inr ⟨Nat.le_trans h1 (Nat.le_mul_of_pos_right n hk), Nat.le_trans h2 (Nat.le_mul_of_pos_right n' hk)⟩
theorem EqS.mul {n m n' m' : Nat} (h : EqS n n') (h' : EqS m m') : EqS (n * m) (n' * m') := by
 refine (h.mul1 m).trans ?_
 rw [Nat.mul_comm n' m, Nat.mul_comm n' m']
 exact h'.mul1 n'
def evA (φ : List Factor → Nat) : List Term → Nat
 | [] => 0
 | t :: r => t.Coeff.toNat * φ t.Factors + evA φ r
theorem zHJ (φ : List Factor → Nat) : ∀ a b : List Term, evA φ (a ++ b) = evA φ a + evA φ b
 | [], b => by simp [evA]
 | t :: r, b => by rw [List.cons_append, evA, evA, zHJ φ r b]; omega
theorem zPF {a b : Int} (ha : 1 ≤ a) (hb : 1 ≤ b) : EqS (znU a b).toNat (a.toNat + b.toNat) := by
 unfold znU EqS
 split <;> omega
theorem zOB (φ : List Factor → Nat) {t : Term} (ht : cOK t) : ∀ {l : List Term}, (∀ x ∈ l, cOK x) → EqS (evA φ (putA t l)) (t.Coeff.toNat * φ t.Factors + evA φ l)
 | [], _ => .inl rfl
 | x :: r, h => by
  unfold putA
  by_cases h1 : cT x t < 0
  ·rw [if_pos h1, evA, evA]
   refine ((EqS.refl _).add (zOB φ ht fun y hy => h y (by simp [hy]))).trans (.inl ?_)
   omega
  ·rw [if_neg h1]
   by_cases h2 : cT x t = 0
   ·rw [if_pos h2, evA, evA, zCw h2]
    show EqS ((znU x.Coeff t.Coeff).toNat * φ t.Factors + evA φ r) (t.Coeff.toNat * φ t.Factors + (x.Coeff.toNat * φ t.Factors + evA φ r))
    refine ((zPF (h x (by simp)).1 ht.1).mul1 _ |>.add (.refl _)).trans (.inl ?_)
    rw [Nat.add_mul]; omega
   ·rw [if_neg h2]; exact .refl _
theorem zsK (φ : List Factor → Nat) : ∀ (b : List Term) {a : List Term}, (∀ x ∈ a, cOK x) → (∀ x ∈ b, cOK x) → EqS (evA φ (sumA a b)) (evA φ a + evA φ b)
 | [], a, _, _ => .inl rfl
 | t :: r, a, ha, hb => by
  refine (zsK φ r (zKc (hb t (by simp)) ha) fun x hx => hb x (by simp [hx])).trans ?_
  rw [evA]
  refine ((zOB φ (hb t (by simp)) ha).add (.refl _)).trans (.inl ?_)
  omega
theorem zBO {φ ψ : List Factor → Nat} : ∀ {a : List Term}, (∀ t ∈ a, EqS (φ t.Factors) (ψ t.Factors)) → EqS (evA φ a) (evA ψ a)
 | [], _ => .refl _
 | t :: r, h => by
  rw [evA, evA]
  exact ((EqS.refl _).mul (h t (by simp))).add (zBO fun x hx => h x (by simp [hx]))
theorem zFN {φ ψ : List Factor → Nat} : ∀ {a : List Term}, (∀ t ∈ a, φ t.Factors = ψ t.Factors) → evA φ a = evA ψ a
 | [], _ => rfl
 | t :: r, h => by rw [evA, evA, h t (by simp), zFN fun x hx => h x (by simp [hx])]
theorem zIL (φ ψ : List Factor → Nat) : ∀ a : List Term, evA (fun m => φ m + ψ m) a = evA φ a + evA ψ a
 | [] => rfl
 | t :: r => by rw [evA, evA, evA, zIL φ ψ r, Nat.mul_add]; omega
theorem zL4 (φ : List Factor → Nat) (k : Nat) : ∀ a : List Term, evA (fun m => k * φ m) a = k * evA φ a
 | [] => rfl
 | t :: r => by rw [evA, evA, zL4 φ k r, Nat.mul_add, Nat.mul_left_comm]
theorem zKZ (G : List Factor → List Factor → Nat) : ∀ a b : List Term, evA (fun m => evA (fun n => G m n) b) a = evA (fun n => evA (fun m => G m n) a) b
 | [], b => by
  rw [evA]
  induction b with
  | nil => rfl
  | cons t r ih => rw [evA, ← ih, evA]; omega
 | t :: r, b => by
  rw [evA, zKZ G r b, ← zL4, ← zIL]
  refine zFN fun s _ => ?_
  rw [evA]
def prW (φ : List Factor → Nat) (b : List Term) (m : List Factor) : Nat := evA (fun n => φ (zbf m n)) b
theorem zNE {a b : Int} (ha : 1 ≤ a ∧ a ≤ 1152921504606846976) (hb : 1 ≤ b ∧ b ≤ 1152921504606846976) : EqS (zoi a b).toNat (a.toNat * b.toNat) := by
 have e : ((a.toNat * b.toNat : Nat) : Int) = a * b := by rw [Int.natCast_mul, Int.toNat_of_nonneg (by omega), Int.toNat_of_nonneg (by omega)]
 have h := zzu ha hb
 unfold zoi at *
 split
 ·rename_i hlt
  right
  refine ⟨by omega, ?_⟩
  have : 1152921504606846976 ≤ a * b := by
   rw [Int.tdiv_eq_ediv_of_nonneg (by omega)] at hlt
   by_cases hc : 1152921504606846976 ≤ a * b
   ·exact hc
   ·have := (Int.le_ediv_iff_mul_le (c := b) (a := a) (b := 1152921504606846976) (by omega)).2 (by omega)
    omega
  omega
 ·left
  omega
theorem zPr (φ : List Factor → Nat) {a b : List Term} (ha : ∀ x ∈ a, cOK x) (hb : ∀ x ∈ b, cOK x) : EqS (evA φ (zc6 a b)) (evA (prW φ b) a) := by
 induction a with
 | nil => exact .refl _
 | cons x a ih =>
  have hx := ha x (by simp)
  show EqS (evA φ (b.map (ziS x) ++ zc6 a b)) _
  rw [zHJ, evA]
  refine EqS.add ?_ (ih fun y hy => ha y (by simp [hy]))
  unfold prW
  clear ih
  induction b with
  | nil => exact .inl (by simp [evA])
  | cons y b ih =>
   rw [List.map_cons, evA, evA, Nat.mul_add, ← Nat.mul_assoc]
   exact ((zNE hx (hb y (by simp))).mul1 _).add (ih fun z hz => hb z (by simp [hz]))
theorem zMm {a b : List Term} (ha : ∀ x ∈ a, cOK x) (hb : ∀ x ∈ b, cOK x) : ∀ t ∈ zc6 a b, cOK t := fun t ht => by
 obtain ⟨x, hx, y, hy, rfl⟩ := zBL ht
 exact (zzu (ha x hx) (hb y hy)).1
theorem zOy {a b : List Term} (ha : ∀ x ∈ a, cOK x) (hb : ∀ x ∈ b, cOK x) : ∀ t ∈ zfS a b, cOK t := zJ1 _ (fun _ h => by cases h) (zMm ha hb)
theorem zKF (a b : List Term) : Srs (zfS a b) := zzL _ _ List.Pairwise.nil
theorem zrS (φ : List Factor → Nat) {a b : List Term} (ha : ∀ x ∈ a, cOK x) (hb : ∀ x ∈ b, cOK x) : EqS (evA φ (zfS a b)) (evA (prW φ b) a) := by
 refine (zsK φ (zc6 a b) (fun _ h => by cases h) (zMm ha hb)).trans ?_
 rw [evA, Nat.zero_add]
 exact zPr φ ha hb
def indA (m n : List Factor) : Nat := if n = m then 1 else 0
theorem zLn {m : List Factor} : ∀ {l : List Term}, (∀ t ∈ l, t.Factors ≠ m) → evA (indA m) l = 0
 | [], _ => rfl
 | t :: r, h => by rw [evA, zLn fun x hx => h x (by simp [hx]), indA, if_neg (h t (by simp)), Nat.mul_zero]
theorem zIn {t : Term} : ∀ {l : List Term}, Srs l → t ∈ l → evA (indA t.Factors) l = t.Coeff.toNat
 | [], _, h => by cases h
 | x :: r, hs, h => by
  have hc := List.pairwise_cons.1 hs
  rw [evA]
  rcases List.mem_cons.1 h with rfl | h
  ·rw [zLn fun y hy e => by
    have := hc.1 y hy
    rw [zrR e.symm] at this; omega]
   simp [indA]
  ·rw [zIn hc.2 h, indA, if_neg fun e => by
    have := hc.1 t h
    rw [zrR e] at this; omega]
   omega
theorem zMf {m : List Factor} : ∀ {l : List Term}, evA (indA m) l ≠ 0 → ∃ t ∈ l, t.Factors = m
 | [], h => absurd rfl h
 | x :: r, h => by
  by_cases e : x.Factors = m
  ·exact ⟨x, by simp, e⟩
  ·rw [evA, indA, if_neg e, Nat.mul_zero, Nat.zero_add] at h
   obtain ⟨t, ht, e⟩ := zMf (l := r) h
   exact ⟨t, by simp [ht], e⟩
theorem zCT {a b : List Term} (ha : Srs a) (hb : Srs b) (ca : ∀ t ∈ a, cOK t) (cb : ∀ t ∈ b, cOK t) (h : ∀ φ, EqS (evA φ a) (evA φ b)) : a = b := by
 refine zIm (R := fun x y => cT x y < 0) (fun x => by rw [zrR rfl]; omega) (fun x y h => by rw [ztT x y]; omega) a b ha hb fun t => ?_
 have key : ∀ {a b : List Term}, Srs a → Srs b → (∀ t ∈ a, cOK t) → (∀ t ∈ b, cOK t) → (∀ φ, EqS (evA φ a) (evA φ b)) → t ∈ a → t ∈ b := fun {a b} ha hb ca cb h ht => by
  have e := h (indA t.Factors)
  rw [zIn ha ht] at e
  have c1 := ca t ht
  unfold cOK at c1
  have hne : evA (indA t.Factors) b ≠ 0 := by unfold EqS at e; omega
  obtain ⟨s, hs, e2⟩ := zMf hne
  rw [← e2, zIn hb hs] at e
  have c2 := cb s hs
  unfold cOK at c2
  have : t = s := zIF (by unfold EqS at e; omega) e2.symm
  rw [this]; exact hs
 exact ⟨key ha hb ca cb h, key hb ha cb ca fun φ => (h φ).symm⟩
def PA (a : List Term) : Prop := Srs a ∧ ∀ t ∈ a, cOK t ∧ MF t.Factors
theorem PA.c {a : List Term} (h : PA a) : ∀ t ∈ a, cOK t := fun t ht => (h.2 t ht).1
theorem zkz {a b : List Term} (ha : PA a) (hb : PA b) : PA (sumA a b) := ⟨zzL _ _ ha.1, fun t ht => ⟨zJ1 b ha.c hb.c t ht, by
 obtain ⟨x, hx, e⟩ := zCU b a ha.1 ht
 rw [e]
 rcases hx with hx | hx
 ·exact (ha.2 x hx).2
 ·exact (hb.2 x hx).2⟩⟩
theorem zkQ {a b : List Term} (ha : PA a) (hb : PA b) : PA (zfS a b) := ⟨zKF _ _, fun t ht => ⟨zOy ha.c hb.c t ht, by
 obtain ⟨x, hx, e⟩ := zCU (zc6 a b) [] List.Pairwise.nil ht
 rw [e]
 rcases hx with hx | hx
 ·cases hx
 ·obtain ⟨u, hu, v, hv, rfl⟩ := zBL hx
  exact zpP (ha.2 u hu).2 (hb.2 v hv).2⟩⟩
theorem PA.nil : PA [] := ⟨List.Pairwise.nil, fun t ht => by cases ht⟩
theorem zO5 {a b : List Term} (ha : PA a) (hb : PA b) : sumA a b = sumA b a := by
 refine zCT (zkz ha hb).1 (zkz hb ha).1 (zkz ha hb).c (zkz hb ha).c fun φ => ?_
 refine (zsK φ b ha.c hb.c).trans (.trans ?_ (zsK φ a hb.c ha.c).symm)
 exact .inl (Nat.add_comm _ _)
theorem zOA {a b c : List Term} (ha : PA a) (hb : PA b) (hc : PA c) : sumA (sumA a b) c = sumA a (sumA b c) := by
 refine zCT (zkz (zkz ha hb) hc).1 (zkz ha (zkz hb hc)).1 (zkz (zkz ha hb) hc).c (zkz ha (zkz hb hc)).c fun φ => ?_
 refine (zsK φ c (zkz ha hb).c hc.c).trans (((zsK φ b ha.c hb.c).add (.refl _)).trans (.trans ?_ (zsK φ (sumA b c) ha.c (zkz hb hc).c).symm))
 refine .trans ?_ ((EqS.refl _).add (zsK φ c hb.c hc.c).symm)
 exact .inl (Nat.add_assoc _ _ _)
theorem zOq {a b : List Term} (ha : PA a) (hb : PA b) : zfS a b = zfS b a := by
 refine zCT (zkQ ha hb).1 (zkQ hb ha).1 (zkQ ha hb).c (zkQ hb ha).c fun φ => ?_
 refine (zrS φ ha.c hb.c).trans (.trans (.inl ?_) (zrS φ hb.c ha.c).symm)
 unfold prW
 rw [zKZ]
 exact zFN fun n hn => zFN fun m hm => by rw [zOI (ha.2 m hm).2 (hb.2 n hn).2]
theorem zMT {a b c : List Term} (ha : PA a) (hb : PA b) (hc : PA c) : zfS (zfS a b) c = zfS a (zfS b c) := by
 have pab := zkQ ha hb
 have pbc := zkQ hb hc
 refine zCT (zkQ pab hc).1 (zkQ ha pbc).1 (zkQ pab hc).c (zkQ ha pbc).c fun φ => ?_
 refine (zrS φ pab.c hc.c).trans ((zrS _ ha.c hb.c).trans (.trans ?_ (zrS φ ha.c pbc.c).symm))
 refine zBO fun m hm => ?_
 refine .trans ?_ (zrS (fun p => φ (zbf m.Factors p)) hb.c hc.c).symm
 refine zBO fun n hn => .inl ?_
 exact zFN fun q hq => by rw [zMH (ha.2 m hm).2 (hb.2 n hn).2 (hc.2 q hq).2]
theorem zPo {a b c : List Term} (ha : PA a) (hb : PA b) (hc : PA c) : zfS a (sumA b c) = sumA (zfS a b) (zfS a c) := by
 have pab := zkQ ha hb
 have pac := zkQ ha hc
 have sbc := zkz hb hc
 refine zCT (zkQ ha sbc).1 (zkz pab pac).1 (zkQ ha sbc).c (zkz pab pac).c fun φ => ?_
 refine (zrS φ ha.c sbc.c).trans (.trans ?_ (zsK φ _ pab.c pac.c).symm)
 refine .trans ?_ ((zrS φ ha.c hb.c).add (zrS φ ha.c hc.c)).symm
 rw [← zIL]
 exact zBO fun m hm => zsK _ c hb.c hc.c
theorem zMO {c : Int} (h : c ≤ 1152921504606846976) : zoi c 1 = c := by
 unfold zoi
 rw [if_neg (by rw [Int.tdiv_one]; omega)]; omega
theorem zOs {a : List Term} (ha : ∀ t ∈ a, cOK t) : zc6 a [⟨1, []⟩] = a := by
 induction a with
 | nil => rfl
 | cons x a ih =>
  show ziS x ⟨1, []⟩ :: zc6 a [⟨1, []⟩] = _
  rw [ih fun t ht => ha t (by simp [ht])]
  congr 1
  unfold ziS
  rw [zMO (ha x (by simp)).2, zxN]
theorem zLl {a : List Term} (ha : PA a) : zfS a [⟨1, []⟩] = a := by
 unfold zfS
 rw [zOs ha.c, sum_nil ha.1]
theorem zKh (a : List Term) : zfS a [] = [] := by
 unfold zfS zc6
 induction a with
 | nil => rfl
 | cons x a ih => rw [List.flatMap_cons, List.map_nil, List.nil_append]; exact ih
theorem zAJ {τ : Type} [Inhabited τ] {R : τ → τ → Prop} : ∀ {l : List τ}, l.Pairwise R → ∀ k, 0 < k → k < l.length → R (l.getD (k - 1) default) (l.getD k default)
 | [], _, k, _, h => by simp at h
 | x :: r, h, 0, h0, _ => by omega
 | x :: r, h, 1, _, h1 => (List.pairwise_cons.1 h).1 _ (zC (by simpa using h1))
 | x :: r, h, k + 2, _, h1 => zAJ (List.pairwise_cons.1 h).2 (k + 1) (by omega) (by simp only [List.length_cons] at h1; omega)
def OKF (vat : Atom → Bool) (fs : List Factor) : Prop := Srf fs ∧ ∀ f ∈ fs, (1 ≤ f.Exp ∧ (f.Atom.Kind = 3 ∨ f.Atom.Kind = 4 → f.Exp = 1)) ∧ vat f.Atom = true
theorem zMw {vat : Atom → Bool} {fs : List Factor} : okF vat fs = true ↔ OKF vat fs := by
 constructor
 ·intro h
  refine ⟨zqW (R := fun x y => cF x y < 0) (fun x y z h1 h2 => zqS h1 h2) _ fun k hk hl => ?_, fun f hf => zni h hf⟩
  have := zea.1 h k (by omega) (by omega)
  simp only [chkF, Bool.and_eq_true, Bool.or_eq_true, decide_eq_true_eq] at this
  rcases this.1.2 with e | e
  ·omega
  ·exact e
 ·intro h
  refine zea.2 fun k _ hk => ?_
  have hm := h.2 _ (zC (l := fs) (i := k) (by omega))
  simp only [chkF, Bool.and_eq_true, Bool.or_eq_true, decide_eq_true_eq, Bool.not_eq_true', Bool.and_eq_false_iff]
  refine ⟨⟨⟨hm.1.1, ?_⟩, ?_⟩, hm.2⟩
  ·by_cases hk : (fs.getD k default).Atom.Kind = 3 ∨ (fs.getD k default).Atom.Kind = 4
   ·right; rw [hm.1.2 hk]; rfl
   ·left
    rw [Bool.or_eq_false_iff]
    constructor
    ·simpa using fun e => hk (.inl e)
    ·simpa using fun e => hk (.inr e)
  ·by_cases h0 : k = 0
   ·exact .inl h0
   ·exact .inr (zAJ h.1 k (by omega) (by omega))
theorem zPy {vat : Atom → Bool} {a : List Term} : vAnn vat a = true ↔ zhG a = true ∧ Srs a ∧ ∀ t ∈ a, cOK t ∧ OKF vat t.Factors := by
 constructor
 ·intro h
  have hall := h
  simp only [vAnn, Bool.and_eq_true] at hall
  refine ⟨hall.1, zqW (R := fun x y => cT x y < 0) (fun x y z h1 h2 => zAl h1 h2) a fun k hk hl => ?_, fun t ht => ⟨(zqH h ht).1, zMw.1 (zqH h ht).2⟩⟩
  have := zea.1 hall.2 k (by omega) (by omega)
  simp only [chkT, Bool.and_eq_true, Bool.or_eq_true, decide_eq_true_eq] at this
  rcases this.1.2 with e | e
  ·omega
  ·exact e
 ·rintro ⟨h1, h2, h3⟩
  simp only [vAnn, Bool.and_eq_true]
  refine ⟨h1, zea.2 fun k _ hk => ?_⟩
  have hm := h3 _ (zC (l := a) (i := k) (by omega))
  simp only [chkT, Bool.and_eq_true, Bool.or_eq_true, decide_eq_true_eq]
  refine ⟨⟨⟨hm.1.1, hm.1.2⟩, ?_⟩, zMw.2 hm.2⟩
  by_cases h0 : k = 0
  ·exact .inl h0
  ·exact .inr (zAJ h2 k (by omega) (by omega))
def QA (a : List Term) : Prop := Srs a ∧ ∀ t ∈ a, cOK t ∧ OKF vatA t.Factors
theorem zt2 {a : List Term} : zbH a = true ↔ zhG a = true ∧ QA a := by rw [zHy]; exact zPy
theorem OKF.mf {fs : List Factor} (h : OKF vatA fs) : MF fs := ⟨h.1, fun f hf => ⟨⟨zvH (h.2 f hf).2, (h.2 f hf).1.2⟩, (h.2 f hf).1.1⟩⟩
theorem QA.pa {a : List Term} (h : QA a) : PA a := ⟨h.1, fun t ht => ⟨(h.2 t ht).1, (h.2 t ht).2.mf⟩⟩
theorem zAp {a : List Term} (h : zbH a = true) : QA a := (zt2.1 h).2
theorem zib {a : List Term} (h : zbH a = true) : PA a := (zAp h).pa
theorem zH1 {a : List Term} (h : zbH a = true) : zhG a = true := (zt2.1 h).1
theorem MF.okf {fs : List Factor} (h : MF fs) (hv : ∀ f ∈ fs, vatA f.Atom = true) : OKF vatA fs := ⟨h.1, fun f hf => ⟨⟨(h.2 f hf).2, (h.2 f hf).1.2⟩, hv f hf⟩⟩
theorem OKF.join {a b : List Factor} (ha : OKF vatA a) (hb : OKF vatA b) : OKF vatA (zbf a b) := (zpP ha.mf hb.mf).okf fun f hf => by
 obtain ⟨y, hy, e⟩ := zo8 hf
 rw [e]
 rcases hy with hy | hy
 ·exact (ha.2 y hy).2
 ·exact (hb.2 y hy).2
theorem zQS {a b : List Term} (ha : QA a) (hb : QA b) : QA (sumA a b) := ⟨zzL _ _ ha.1, fun t ht => ⟨zJ1 b ha.pa.c hb.pa.c t ht, by
 obtain ⟨x, hx, e⟩ := zCU b a ha.1 ht
 rw [e]
 rcases hx with hx | hx
 ·exact (ha.2 x hx).2
 ·exact (hb.2 x hx).2⟩⟩
theorem zQI {a b : List Term} (ha : QA a) (hb : QA b) : QA (zfS a b) := ⟨zKF _ _, fun t ht => ⟨zOy ha.pa.c hb.pa.c t ht, by
 obtain ⟨x, hx, e⟩ := zCU (zc6 a b) [] List.Pairwise.nil ht
 rw [e]
 rcases hx with hx | hx
 ·cases hx
 ·obtain ⟨u, hu, v, hv, rfl⟩ := zBL hx
  exact (ha.2 u hu).2.join (hb.2 v hv).2⟩⟩
theorem QA.nil : QA [] := ⟨List.Pairwise.nil, fun t ht => by cases ht⟩
theorem zO9 {c : Int} (h : 1 ≤ c ∧ c ≤ 1152921504606846976) : QA [⟨c, []⟩] := ⟨by simp, fun t ht => by
 rw [List.mem_singleton] at ht; subst ht
 exact ⟨h, List.Pairwise.nil, fun f hf => by cases hf⟩⟩
theorem zNR {a : List Term} (h : (fitR a).2 = 0) : zhG a = true ∧ fitR a = (a, 0) := by
 unfold fitR at *
 cases hw : zhG a with
 | true => exact ⟨rfl, rfl⟩
 | false => rw [hw] at h; simp at h
theorem zPQ {ok : Bool} {r : List Term × Int} (h : (opR ok r).2 = 0) : ok = true ∧ opR ok r = r := by
 cases ok with
 | true => exact ⟨rfl, rfl⟩
 | false => simp [opR] at h
theorem zC0 {a b : List Term} (h : (addR a b).2 = 0) : (zbH a = true ∧ zbH b = true ∧ zbH (sumA a b) = true) ∧ addR a b = (sumA a b, 0) := by
 obtain ⟨h1, h2⟩ := zPQ h
 rw [Bool.and_eq_true] at h1
 unfold addR at h
 rw [h2] at h
 obtain ⟨h3, h4⟩ := zNR h
 exact ⟨⟨h1.1, h1.2, zt2.2 ⟨h3, zQS (zAp h1.1) (zAp h1.2)⟩⟩, h2.trans h4⟩
theorem zz5 {a b : List Term} (h : (mulR a b).2 = 0) : (zbH a = true ∧ zbH b = true ∧ zbH (zfS a b) = true) ∧ mulR a b = (zfS a b, 0) := by
 obtain ⟨h1, h2⟩ := zPQ h
 rw [Bool.and_eq_true] at h1
 unfold mulR at h
 rw [h2] at h
 obtain ⟨h3, h4⟩ := zNR h
 exact ⟨⟨h1.1, h1.2, zt2.2 ⟨h3, zQI (zAp h1.1) (zAp h1.2)⟩⟩, h2.trans h4⟩
theorem zMq {a : List Term} (h : zhG a = true) : fitR a = (a, 0) := by unfold fitR; rw [h]; rfl
theorem zQp {a b : List Term} (ha : zbH a = true) (hb : zbH b = true) (h : zhG (sumA a b) = true) : addR a b = (sumA a b, 0) := by
 unfold addR; rw [ha, hb, zMq h]; rfl
theorem zL0 {a b : List Term} (ha : zbH a = true) (hb : zbH b = true) (h : zhG (zfS a b) = true) : mulR a b = (zfS a b, 0) := by
 unfold mulR; rw [ha, hb, zMq h]; rfl
theorem zNN (a b : List Term) : addR a b = addR b a := by
 unfold addR
 cases ha : zbH a with
 | false => cases zbH b <;> rfl
 | true =>
  cases hb : zbH b with
  | false => rfl
  | true => rw [zO5 (zib ha) (zib hb)]
theorem zN9 (a b : List Term) : mulR a b = mulR b a := by
 unfold mulR
 cases ha : zbH a with
 | false => cases zbH b <;> rfl
 | true =>
  cases hb : zbH b with
  | false => rfl
  | true => rw [zOq (zib ha) (zib hb)]
theorem zJn : zbH [] = true := zt2.2 ⟨by decide, QA.nil⟩
theorem zLF {c : Int} (h : 1 ≤ c ∧ c ≤ 1152921504606846976) : zbH [⟨c, []⟩] = true := zt2.2 ⟨by
 simp only [zhG, withF, zxa, ziJ, zwA, zDl, zol, zuW]; rfl, zO9 h⟩
theorem zNG : zbH [⟨1, []⟩] = true := zLF (by omega)
theorem zOR {a : List Term} (h : zbH a = true) : addR a [] = (a, 0) := zQp h zJn (zH1 h)
theorem zO1 {a : List Term} (h : zbH a = true) : mulR a [⟨1, []⟩] = (a, 0) := by
 rw [zL0 h zNG (by rw [zLl (zib h)]; exact zH1 h), zLl (zib h)]
theorem zPE {a : List Term} (h : zbH a = true) : mulR a [] = ([], 0) := by
 rw [zL0 h zJn (by rw [zKh]; decide), zKh]
theorem zFV {a : List Term} (h : okA a) (b : List Term) : zb0 a b = (true, decide (a = b)) := zv9 h.1.1 (by omega) b
theorem zQw : zj4.snd = [⟨1, []⟩] := rfl
section
variable {a b c : List Term} (oa : okA a) (ob : okA b) (oc : okA c) (va : zbH a = true) (vb : zbH b = true) (vc : zbH c = true)
include oa va
theorem zQR : zdN 1 a = (true, true) := by
 show (zmh a).ev (zN zi1 default 0) (fun r => (true, r)) (false, default) = _
 unfold zmh
 simp only [Wy.ev_i, Wy.ev_bn, Wy.ev_k, Wy.ev_d, (zzV oa zF7).1, (zu3 oa zF7).1, (zu3 oa (zQf 1 (by omega))).1, zQw, cond_true, zOR va, zO1 va, zPE va, zFV oa]
 simp
include ob vb oc vc
theorem zRd : zer 1 a c (mulR a b).2 (addR b c).2 (mulR a b).1 (addR b c).1 = (true, true) := by
 show (zml a c (mulR a b).2 (addR b c).2 (mulR a b).1 (addR b c).1).ev (zN ziN default 0) (fun r => (true, r)) (false, default) = _
 unfold zml
 have o1 := (zwt oa oc).1
 have o2 := (zCv ob oc).1
 have o3 := (zwt oa ob).1
 simp only [Wy.ev_i, Wy.ev_bn, Wy.ev_k, Wy.ev_d, (zu3 oa oc).1, (zu3 oa o2).1, (zzV o3 o1).1, cond_true, beqd, zQR oa va, zFV (zwt oa o2).1]
 by_cases h1 : (addR b c).2 = 0
 ·by_cases h2 : (mulR a b).2 = 0
  ·by_cases h3 : (mulR a c).2 = 0
   ·by_cases h4 : (mulR a (addR b c).1).2 = 0
    ·by_cases h5 : (addR (mulR a b).1 (mulR a c).1).2 = 0
     ·have e : (mulR a (addR b c).1).1 = (addR (mulR a b).1 (mulR a c).1).1 := by
       rw [(zC0 h5).2, (zz5 h4).2, (zz5 h3).2, (zz5 h2).2, (zC0 h1).2]
       exact zPo (zib va) (zib vb) (zib vc)
      simp only [h1, h2, h3, h4, h5, e, decide_true, cond_true, Bool.not_true, cond_false]
     ·simp [h1, h2, h3, h4, h5]
    ·simp [h1, h2, h3, h4]
   ·simp [h1, h2, h3]
  ·simp [h1, h2]
 ·simp [h1]
theorem zRl : zeA 1 a b c (mulR a b).2 (addR b c).2 (mulR a b).1 (addR b c).1 = (true, true) := by
 show (zmn a b c (mulR a b).2 (addR b c).2 (mulR a b).1 (addR b c).1).ev (zN ziY default 0) (fun r => (true, r)) (false, default) = _
 unfold zmn
 have o1 := (zwt ob oc).1
 have o3 := (zwt oa ob).1
 simp only [Wy.ev_i, Wy.ev_bn, Wy.ev_k, Wy.ev_d, (zu3 ob oc).1, (zu3 o3 oc).1, (zu3 oa o1).1, cond_true, beqd, zRd oa ob oc va vb vc, zFV (zwt o3 oc).1]
 by_cases h2 : (mulR a b).2 = 0
 ·by_cases h3 : (mulR (mulR a b).1 c).2 = 0
  ·by_cases h4 : (mulR b c).2 = 0
   ·by_cases h5 : (mulR a (mulR b c).1).2 = 0
    ·have e : (mulR (mulR a b).1 c).1 = (mulR a (mulR b c).1).1 := by
      rw [(zz5 h5).2, (zz5 h3).2, (zz5 h4).2, (zz5 h2).2]
      exact zMT (zib va) (zib vb) (zib vc)
     simp only [h2, h3, h4, h5, e, decide_true, cond_true, Bool.not_true, cond_false]
    ·simp [h2, h3, h4, h5]
   ·simp [h2, h3, h4]
  ·simp [h2, h3]
 ·simp [h2]
theorem zQW : zgO 1 a b c (addR a b).2 (mulR a b).2 (addR a b).1 (mulR a b).1 = (true, true) := by
 show (zmo a b c (addR a b).2 (mulR a b).2 (addR a b).1 (mulR a b).1).ev (zN zjf default 0) (fun r => (true, r)) (false, default) = _
 unfold zmo
 have o1 := (zCv ob oc).1
 have o3 := (zCv oa ob).1
 simp only [Wy.ev_i, Wy.ev_bn, Wy.ev_k, Wy.ev_d, (zzV ob oc).1, (zzV o3 oc).1, (zzV oa o1).1, cond_true, beqd, zRl oa ob oc va vb vc, zFV (zCv o3 oc).1]
 by_cases h2 : (addR a b).2 = 0
 ·by_cases h3 : (addR (addR a b).1 c).2 = 0
  ·by_cases h4 : (addR b c).2 = 0
   ·by_cases h5 : (addR a (addR b c).1).2 = 0
    ·have e : (addR (addR a b).1 c).1 = (addR a (addR b c).1).1 := by
      rw [(zC0 h5).2, (zC0 h3).2, (zC0 h4).2, (zC0 h2).2]
      exact zOA (zib va) (zib vb) (zib vc)
     simp only [h2, h3, h5, e, decide_true, cond_true, Bool.not_true, cond_false]
     rw [h4]; rfl
    ·simp [h2, h3, h4, h5]
   ·simp [h2, h3, h4]
  ·simp [h2, h3]
 ·simp [h2]
theorem zRJ : zsf 1 a b c = (true, true) := by
 show (zm3 a b c).ev (zN zjK default 0) (fun r => (true, r)) (false, default) = _
 unfold zm3
 simp only [Wy.ev_i, Wy.ev_bn, Wy.ev_k, Wy.ev_d, (zzV oa ob).1, (zzV ob oa).1, (zu3 oa ob).1, (zu3 ob oa).1, zNN b a, zN9 b a, cond_true, beqd, zQW oa ob oc va vb vc, zFV (zCv oa ob).1, zFV (zwt oa ob).1]
 simp
end
theorem zMF (a b c : List Term) (ha : wf23 a) (hb : wf23 b) (hc : wf23 c) : zhb a b c = (true, true) := by
 obtain ⟨q, h1, h2⟩ := zRw 20 (by omega) [a, b, c] (by simp) (fun x hx => by
  simp only [List.mem_cons, List.not_mem_nil, or_false] at hx
  rcases hx with rfl | rfl | rfl
  ·exact ha
  ·exact hb
  ·exact hc)
 replace h1 : zt4 (20 : Int) [a, b, c] = (true, q) := h1
 have key : zr5 1 a b c = (true, true) := by
  show (zmZ a b c).ev (zN zjG default 0) (fun r => (true, r)) (false, default) = _
  unfold zmZ
  rw [Wy.ev_bn, h1]
  cases q with
  | false => rfl
  | true =>
   have oa := zIE (by omega) (h2 rfl a (by simp)) ha
   have ob := zIE (by omega) (h2 rfl b (by simp)) hb
   have oc := zIE (by omega) (h2 rfl c (by simp)) hc
   simp only [Wy.ev_i, Wy.ev_bn, Wy.ev_k, Wy.ev_d, cond_true, oa.valid, ob.valid, oc.valid, Bool.not_true, cond_false]
   cases va : zbH a with
   | false => rfl
   | true =>
    cases vb : zbH b with
    | false => rfl
    | true =>
     cases vc : zbH c with
     | false => rfl
     | true => simp only [Bool.not_true, cond_false, zRJ oa ob oc va vb vc, cond_true]
 unfold zhb znA
 rw [Wy.fin_bn, key]
 rfl
end Go.Proofs.YtnolcogncjijpaaGreatDoor
end
