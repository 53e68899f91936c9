/- Texts of this claim, joined (the program, its functions in plain words, and what they compute). -/
import Derived.Test.YtnolcogncjijpaaGreatDoorGC4
import Derived.Test.YtnolcogncjijpaaGreatDoorGC2
import Derived.Test.YtnolcogncjijpaaGreatDoorGC3
set_option autoImplicit false
set_option linter.unusedVariables false
set_option linter.unusedSectionVars false
set_option linter.unusedSimpArgs false
set_option maxRecDepth 1000000
set_option maxHeartbeats 0
/- The operations of both sides. -/
noncomputable section
namespace Go.Proofs.YtnolcogncjijpaaGreatDoor
open Go Go.Ab
theorem zE4 {B : Nat} : ∀ l : List Factor, (∀ f ∈ l, zet f.Atom ≤ B) → zbG l ≤ l.length * B
 | [], _ => by rw [zoH]; simp
 | f :: r, h => by
  have h1 := h f (by simp)
  have h2 := zE4 r fun g hg => h g (by simp [hg])
  rw [zew, List.length_cons, Nat.add_mul]; omega
theorem zL6 {B : Nat} : ∀ l : List Term, (∀ t ∈ l, 1 + t.Factors.length + zbG t.Factors ≤ B) → zR l ≤ l.length * B
 | [], _ => by rw [zvF]; simp
 | f :: r, h => by
  have h1 := h f (by simp)
  have h2 := zL6 r fun g hg => h g (by simp [hg])
  rw [ziJ, List.length_cons, Nat.add_mul]; omega
theorem zPt {l : List Term} (hl : l.length ≤ 1000000) (h : ∀ t ∈ l, GT t) : zF 10 l ∧ zR l ≤ 4611686018427387904 := by
 refine ⟨⟨hl, fun t ht => (h t ht).fine⟩, ?_⟩
 refine Nat.le_trans (zL6 (B := 4195330000) l fun t ht => ?_) (by have := Nat.mul_le_mul hl (Nat.le_refl 4195330000); omega)
 have hg := h t ht
 have h1 := zE4 (B := 4195328) t.Factors fun f hf => zJ6 (hg.2.2 f hf).1.1 (hg.2.2 f hf).1.2.2
 have := Nat.mul_le_mul hg.2.1 (Nat.le_refl 4195328)
 have := hg.2.1
 omega
theorem zOG {t : Term} (ht : GT t) {l : List Term} (hs : Srs l) (h : ∀ x ∈ l, GT x) : ∀ x ∈ putA t l, GT x := fun x hx => by
 have hc := zTa ht.1 (fun y hy => (h y hy).1) x hx
 rcases (zJo hs).1 hx with ⟨h1, _⟩ | ⟨h1, _⟩
 ·exact h x h1
 ·exact ⟨hc, by rw [h1]; exact ht.2⟩
theorem zFb : ∀ (b a : List Term), Srs a → (∀ x ∈ a, GT x) → (∀ x ∈ b, GT x) → ∀ x ∈ sumA a b, GT x
 | [], _, _, ha, _ => ha
 | t :: r, a, hs, ha, hb => zFb r (putA t a) (zxB hs) (zOG (hb t (by simp)) hs ha) fun x hx => hb x (by simp [hx])
theorem zF7 {x y : Term} (hx : VT x) (hy : VT y) : GT (zkY x y) := by
 obtain ⟨gx, sx, lx, ex⟩ := hx
 obtain ⟨gy, sy, ly, ey⟩ := hy
 refine ⟨(zLT gx.1 gy.1).1, by have := zBA x.Factors y.Factors; show (zcD x.Factors y.Factors).length ≤ 1000; omega, fun f hf => ?_⟩
 obtain ⟨g, hg, e⟩ := zBv hf
 have hb := zBT (B := 64) (fun z hz => ⟨(gx.2.2 z hz).2.1, (ex z hz).2⟩) (fun z hz => ⟨(gy.2.2 z hz).2.1, (ey z hz).2⟩) hf
 have hv : (zeA (zbP 9) g.Atom = true ∧ ziQ g.Atom ∧ g.Atom.Items.length ≤ 1024) := by
  rcases hg with hg | hg
  ·exact (gx.2.2 g hg).1
  ·exact (gy.2.2 g hg).1
 exact ⟨by rw [e]; exact hv, hb.1, by omega⟩
theorem zKL {a b : List Term} (ha : ∀ t ∈ a, VT t) (hb : ∀ t ∈ b, VT t) : ∀ t ∈ zeZ a b, GT t := fun t ht => by
 obtain ⟨x, hx, y, hy, rfl⟩ := zSb ht
 exact zF7 (ha x hx) (hb y hy)
theorem zT1 {x y : Term} (hx : VT x) (hy : VT y) : zk4 x.Factors y.Factors = (true, zcD x.Factors y.Factors) := by
 obtain ⟨gx, sx, lx, ex⟩ := hx
 obtain ⟨gy, sy, ly, ey⟩ := hy
 exact zTw (d := 9) (by omega) _ _ (by omega) (fun f hf => ⟨zBc (gx.2.2 f hf).1.1 (gx.2.2 f hf).1.2.2, by have := (gx.2.2 f hf).2; omega⟩) fun f hf => by have := (gy.2.2 f hf).2; omega
theorem zU5 (a b : List Term) (i : Int) (x : Term) (hx : VT x) (hb : ∀ t ∈ b, VT t) (hbl : b.length ≤ 512) (terms : List Term) (hl : terms.length ≤ 1000000) (n : Nat) (hn : b.length < n) :
  zAt n b a a.length i b b.length 0 terms x = (true, (b, a, (a.length : Int), i, terms ++ b.map (zkY x))) := by
 have hreach : zV = 70368744177664 := rfl
 have := zdM (W := zog) (z := default) b.length (fun j => (b, (), (), a, (a.length : Int), i, b, (b.length : Int), (j : Int), ())) (fun j => (terms ++ (b.take j).map (zkY x), x, ())) (fun _ => true) default (b, a, (a.length : Int), i, terms ++ b.map (zkY x))
  (fun j hj H K D => by
   show (zls b a a.length i b b.length j (terms ++ (b.take j).map (zkY x)) x).ev H K D = _
   unfold zls
   have hy := hb _ (zM hj)
   have hr : decide (((terms ++ (b.take j).map (zkY x)).length + 1) * 32 ≤ zV) = true := by simp only [decide_eq_true_eq, List.length_append, List.length_map, List.length_take]; omega
   simp only [Wy.ev_i, Wy.ev_k, Wy.ev_h, Wy.ev_bn, Wy.ev_d, tT, hj, (zOD hx.1.1 hy.1.1).1, zT1 hx hy, List.length_singleton, hr]
   rw [zbd (by omega), zj7 hj, List.map_append, ← List.append_assoc]
   rfl)
  (fun H K D => by
   show (zls b a a.length i b b.length b.length (terms ++ (b.take b.length).map (zkY x)) x).ev H K D = _
   unfold zls
   simp only [Wy.ev_i, Wy.ev_k, tT, Nat.lt_irrefl, List.take_length]) n hn
 rw [show allN (fun _ => true) b.length 0 = true from zgt.2 fun _ _ _ => rfl] at this
 simp only [List.take_zero, List.map_nil, List.append_nil] at this
 exact this
theorem zU8 (a b : List Term) (ha : ∀ t ∈ a, VT t) (hb : ∀ t ∈ b, VT t) (hal : a.length ≤ 512) (hbl : b.length ≤ 512) (n : Nat) (hn : a.length < n) :
  ztf n b a a.length 0 [] = (true, zeZ a b) := by
 have := zdM (W := zof) (z := default) a.length (fun i => (b, (), a, (a.length : Int), (i : Int), ())) (fun i => (zeZ (a.take i) b, ())) (fun _ => true) default (zeZ a b)
  (fun i hi H K D => by
   show (zlu b a a.length i (zeZ (a.take i) b)).ev H K D = _
   unfold zlu
   have hx := ha _ (zM hi)
   have hlen : (zeZ (a.take i) b).length ≤ 1000000 := by
    rw [zH7, List.length_take]
    have := Nat.mul_le_mul (show min i a.length ≤ 512 by omega) hbl
    omega
   simp only [Wy.ev_i, Wy.ev_k, Wy.ev_h, Wy.ev_bn, Wy.ev_d, tT, hi]
   rw [zU5 a b i _ hx hb hbl _ hlen _ (by omega)]
   simp only [cond_true]
   rw [zbd (by omega), zj7 hi]
   have e : zeZ (a.take i ++ [a.getD i default]) b = zeZ (a.take i) b ++ b.map (zkY (a.getD i default)) := by
    unfold zeZ; rw [List.flatMap_append]; simp
   rw [e])
  (fun H K D => by
   show (zlu b a a.length a.length (zeZ (a.take a.length) b)).ev H K D = _
   unfold zlu
   simp only [Wy.ev_i, Wy.ev_k, tT, Nat.lt_irrefl, List.take_length]) n hn
 rw [show allN (fun _ => true) a.length 0 = true from zgt.2 fun _ _ _ => rfl] at this
 exact this
theorem szTs_get' (a : List Term) (i : Nat) (h : i < a.length) : (a.getD i default).Factors.length ≤ szTs a := zB8 a i h
theorem zSF (a b : List Term) (i : Int) (k : Nat) (hk : k < b.length) (out : List Term) (c : Int) (x : Term) (hx : VT x) (hy : VT (b.getD k default)) (n : Nat) (hn : (b.getD k default).Factors.length < n) :
  zAC n a b i k 0 out c x.Factors = (true, (a, b, i, (k : Int), out, c, zcD x.Factors (b.getD k default).Factors)) := by
 obtain ⟨gx, sx, lx, ex⟩ := hx
 obtain ⟨gy0, sy, ly, ey⟩ := hy
 have gy : ∀ f ∈ (b.getD k default).Factors, GF f := gy0.2.2
 have sy : Srf (b.getD k default).Factors := sy
 clear gy0
 generalize hF : (b.getD k default).Factors = F at *
 have key : ∀ j, j < F.length → facA (F.getD j default) (zcD x.Factors (F.take j)) = zcD x.Factors (F.take (j + 1)) := fun j hj => by
  have e1 := zGk (F.take j) x.Factors (sy.sublist (List.take_sublist _ _)) (fun z hz => (ex z hz).1) fun z hz => (ey z (List.mem_of_mem_take hz)).1
  have e2 := zGk (F.take (j + 1)) x.Factors (sy.sublist (List.take_sublist _ _)) (fun z hz => (ex z hz).1) fun z hz => (ey z (List.mem_of_mem_take hz)).1
  rw [← e1, ← e2, zj7 hj, List.foldl_append]; rfl
 have := zdM (W := zoi) (z := default) F.length (fun j => (a, b, (), i, (k : Int), (), (j : Int), ())) (fun j => (out, (c, zcD x.Factors (F.take j), ()), ())) (fun _ => true) default (a, b, i, (k : Int), out, c, zcD x.Factors F)
  (fun j hj H K D => by
   show (zlx a b i k j out c (zcD x.Factors (F.take j))).ev H K D = _
   unfold zlx
   have hlen := zBA x.Factors (F.take j)
   rw [List.length_take] at hlen
   have hex := fun z (hz : z ∈ zcD x.Factors (F.take j)) => zBT (B := 64) (fun z hz => ⟨(gx.2.2 z hz).2.1, (ex z hz).2⟩) (fun z hz => ⟨(gy z (List.mem_of_mem_take hz)).2.1, (ey z (List.mem_of_mem_take hz)).2⟩) hz
   have hfine : ∀ z ∈ zcD x.Factors (F.take j), zdc (zF 9) z.Atom := fun z hz => by
    obtain ⟨w, hw, e⟩ := zBv hz
    rw [e]
    rcases hw with hw | hw
    ·exact zBc (gx.2.2 w hw).1.1 (gx.2.2 w hw).1.2.2
    ·exact zBc (gy w (List.mem_of_mem_take hw)).1.1 (gy w (List.mem_of_mem_take hw)).1.2.2
   have hm := zM hj
   have e1 : decide ((k : Int) < Int.ofNat b.length) = true := by simp [hk]
   have e2 : decide ((j : Int) < Int.ofNat F.length) = true := by simp [hj]
   have efx : (FactorOf.mk (F.getD j default).Atom (F.getD j default).Exp : Factor) = F.getD j default := rfl
   simp only [Atom.eta, Wy.ev_i, Wy.ev_k, Wy.ev_h, Wy.ev_bn, Wy.ev_d, zfh, Bool.and_self, cond_true, Int.toNat_natCast, hF, e1, e2, efx]
   rw [zTy (d := 9) _ _ (by omega) hfine (by omega) (fun z hz => by have := hex z hz; omega) (by have := (gy _ hm).2; omega), cond_true, zbd (by omega), key j hj])
  (fun H K D => by
   show (zlx a b i k F.length out c (zcD x.Factors (F.take F.length))).ev H K D = _
   unfold zlx
   have e1 : decide ((k : Int) < Int.ofNat b.length) = true := by simp [hk]
   have e2 : decide ((F.length : Int) < Int.ofNat F.length) = false := by simp
   simp only [Wy.ev_i, Wy.ev_k, zfh, Bool.and_self, cond_true, cond_false, Int.toNat_natCast, hF, e1, e2, List.take_length]) n hn
 rw [show allN (fun _ => true) F.length 0 = true from zgt.2 fun _ _ _ => rfl] at this
 simp only [List.take_zero, zD9] at this
 exact this
theorem zTU (a b : List Term) (i : Nat) (hi : i < a.length) (hal : a.length ≤ 512) (hbl : b.length ≤ 512) (hx : VT (a.getD i default)) (hb : ∀ t ∈ b, VT t) (out : List Term) (ho : out.length ≤ i * 512) (hs : Srs out) (hg : ∀ t ∈ out, GT t) (n : Nat) (hn : b.length < n) :
  zB9 n a b i 0 out = (true, (a, b, (i : Int), sumA out (b.map (zkY (a.getD i default))))) := by
 have := zcv (W := zpT) (z := default) (l := b) (fun k (o : List Term) => (a, b, (), (i : Int), (k : Int), ())) (fun _ o => (o, ())) (fun y o => .inl (putA (zkY (a.getD i default) y) o)) (fun o => (a, b, (i : Int), o)) (fun k o => (o.length ≤ i * 512 + k ∧ Srs o) ∧ ∀ t ∈ o, GT t)
  (fun k o hk hI => .inl ⟨_, rfl, ⟨⟨by have := zJq (t := zkY (a.getD i default) (b.getD k default)) o; omega, zxB hI.1.2⟩, zOG (zF7 hx (hb _ (zM hk))) hI.1.2 hI.2⟩, fun H K D => by
   show (zmE a b i k o).ev H K D = _
   unfold zmE
   have hy := hb _ (zM hk)
   have hsz := szTs_get' b k hk
   simp only [Wy.ev_i, Wy.ev_k, Wy.ev_h, Wy.ev_bn, Wy.ev_d, tT, hk, hi, (zOD hx.1.1 hy.1.1).2]
   rw [zSF a b i k hk o _ _ hx hy _ (by omega)]
   simp only [cond_true]
   have e : (TermOf.mk (zvL (a.getD i default).Coeff (b.getD k default).Coeff) (zcD (a.getD i default).Factors (b.getD k default).Factors) : Term) = zkY (a.getD i default) (b.getD k default) := rfl
   have hg := zF7 hx hy
   rw [e, zPW (d := 9) o _ (by omega) (fun z hz => (hI.2 z hz).fine) (by omega) (fun z hz => (hI.2 z hz).1) hg.1]
   simp only [cond_true]
   rw [zbd (by omega)]⟩)
  (fun o hI H K D => by
   show (zmE a b i b.length o).ev H K D = _
   unfold zmE
   simp only [Wy.ev_i, Wy.ev_k, tT, Nat.lt_irrefl]) n 0 out (by omega) (by omega) (show (out.length ≤ i * 512 + 0 ∧ Srs out) ∧ ∀ t ∈ out, GT t from ⟨⟨Nat.le_trans ho (Nat.le_add_right _ _), hs⟩, hg⟩)
 rw [List.drop_zero, zcu] at this
 have e : ∀ (l : List Term) (o : List Term), l.foldl (fun s t => putA (zkY (a.getD i default) t) s) o = sumA o (l.map (zkY (a.getD i default))) := fun l => by
  induction l with
  | nil => intro o; rfl
  | cons y r ih => intro o; rw [List.foldl_cons, ih]; rfl
 rw [e] at this
 exact this
theorem zPP (o : List Term) (b : List Term) (x : Term) : (sumA o (b.map (zkY x))).length ≤ o.length + b.length := by
 have := zBl (b.map (zkY x)) o
 rwa [List.length_map] at this
theorem zSQ (a b : List Term) (ha : ∀ t ∈ a, VT t) (hb : ∀ t ∈ b, VT t) (hal : a.length ≤ 512) (hbl : b.length ≤ 512) : zqu a b = (true, zGd a b) := by
 unfold zqu zvP
 have := zcv (W := zpM) (z := default) (l := a) (fun i (o : List Term) => (a, b, (), (i : Int), ())) (fun _ o => (o, ())) (fun x o => .inl (sumA o (b.map (zkY x)))) (fun o => o) (fun i o => (o.length ≤ i * 512 ∧ Srs o) ∧ ∀ t ∈ o, GT t)
  (fun i o hi hI => .inl ⟨_, rfl, ⟨⟨by have := zPP o b (a.getD i default); omega, zMx _ _ hI.1.2⟩, zFb _ _ hI.1.2 hI.2 fun t ht => by
    obtain ⟨y, hy, rfl⟩ := List.mem_map.1 ht
    exact zF7 (ha _ (zM hi)) (hb y hy)⟩, fun H K D => by
   show (zmI a b i o).ev H K D = _
   unfold zmI
   have e1 : decide ((i : Int) < Int.ofNat a.length) = true := by simp [hi]
   simp only [Wy.ev_i, Wy.ev_k, Wy.ev_h, Wy.ev_bn, Wy.ev_d, e1, cond_true]
   rw [zTU a b i hi hal hbl (ha _ (zM hi)) hb o hI.1.1 hI.1.2 hI.2 _ (by omega)]
   simp only [cond_true]
   rw [zbd (by omega)]⟩)
  (fun o hI H K D => by
   show (zmI a b a.length o).ev H K D = _
   unfold zmI
   have e1 : decide ((a.length : Int) < Int.ofNat a.length) = false := by simp
   simp only [Wy.ev_i, Wy.ev_k, e1, cond_false]) ((a.length + b.length + Int.toNat (0 : Int) + (0 : Nat) + (1 : Nat)) + szTs a + szTs b + szTs []) 0 [] (by omega) (by omega) ⟨⟨by simp, .nil⟩, fun t ht => by cases ht⟩
 rw [List.drop_zero, zcu] at this
 have e : ∀ (l : List Term) (o : List Term), l.foldl (fun s x => sumA s (b.map (zkY x))) o = sumA o (zeZ l b) := fun l => by
  induction l with
  | nil => intro o; rfl
  | cons y r ih =>
   intro o
   rw [List.foldl_cons, ih]
   show _ = (zeZ (y :: r) b).foldl (fun a t => putA t a) o
   unfold zeZ
   rw [List.flatMap_cons, List.foldl_append]; rfl
 rw [e] at this
 have this : zC2 ((a.length + b.length + Int.toNat (0 : Int) + (0 : Nat) + (1 : Nat)) + szTs a + szTs b + szTs []) a b 0 [] = (true, zGd a b) := this
 rw [Wy.fin_bn, this]; rfl
theorem zTq (a b : List Term) (ha : ∀ t ∈ a, GT t) (hb : ∀ t ∈ b, GT t) (hs : Srs a) (hal : a.length ≤ 512) (hbl : b.length ≤ 512) : zyo a b = (true, sumA a b) := by
 unfold zyo zEE
 have := zcv (W := zwG) (z := default) (l := b) (fun i (o : List Term) => (o, b, (i : Int), ())) (fun _ o => ()) (fun x o => .inl (putA x o)) (fun o => o) (fun i o => (o.length ≤ 512 + i ∧ Srs o) ∧ ∀ t ∈ o, GT t)
  (fun i o hi hI => .inl ⟨_, rfl, ⟨⟨by have := zJq (t := b.getD i default) o; omega, zxB hI.1.2⟩, zOG (hb _ (zM hi)) hI.1.2 hI.2⟩, fun H K D => by
   show (zrQ o b i).ev H K D = _
   unfold zrQ
   simp only [Wy.ev_i, Wy.ev_k, Wy.ev_h, Wy.ev_bn, Wy.ev_d, tT, hi]
   rw [zPW (d := 9) o _ (by omega) (fun z hz => (hI.2 z hz).fine) (by omega) (fun z hz => (hI.2 z hz).1) (hb _ (zM hi)).1, cond_true, zbd (by omega)]⟩)
  (fun o hI H K D => by
   show (zrQ o b b.length).ev H K D = _
   unfold zrQ
   simp only [Wy.ev_i, Wy.ev_k, tT, Nat.lt_irrefl]) (a.length + b.length + Int.toNat (0 : Int) + (1 : Nat)) 0 a (by omega) (by omega) ⟨⟨by omega, hs⟩, ha⟩
 rw [List.drop_zero, zcu] at this
 have this : zIk (a.length + b.length + Int.toNat (0 : Int) + (1 : Nat)) a b 0 = (true, sumA a b) := this
 rw [Wy.fin_bn, this]; rfl
def okA (a : List Term) : Prop := (zF 12 a ∧ zR a ≤ 4611686018427387904) ∧ zh8 a ∧ a.length ≤ roomLen
def opR (ok : Bool) (r : List Term × Int) : List Term × Int := bif ok then r else ([], 1)
def addR (a b : List Term) : List Term × Int := opR (zed a && zed b) (fitR (sumA a b))
def mulR (a b : List Term) : List Term × Int := opR (zed a && zed b) (fitR (zGd a b))
def monA (a b : List Term) : Atom := ⟨1, ⟨0, 0⟩, [a, b], 0, [], 0, ⟨0, 0, ByteArray.mk #[]⟩⟩
def delA (a : List Term) : Atom := ⟨2, ⟨0, 0⟩, [a], 0, [], 0, ⟨0, 0, ByteArray.mk #[]⟩⟩
def absA (a : List Term) : Atom := ⟨3, ⟨0, 0⟩, [a], 0, [], 0, ⟨0, 0, ByteArray.mk #[]⟩⟩
def monR (a b : List Term) : List Term × Int := opR (zed a && zed b) (if b = [] then (a, 0) else if a = [] ∨ a = b then ([], 0) else fitR (oneA (monA a b)))
def delR (a : List Term) : List Term × Int := opR (zed a) (if a = [] ∨ isU a = true then (a, 0) else if isC a = true then ([⟨1, []⟩], 0) else fitR (oneA (delA a)))
def absR (a : List Term) : List Term × Int := opR (zed a) (if a = [] then ([⟨1, []⟩], 0) else if hasC a = true then ([], 0) else fitR (oneA (absA a)))
theorem okA.valid {a : List Term} (h : okA a) : zca a = (true, zed a) := zRJ h.1.1 (by omega) h.1.2
theorem okA.rvalid {a : List Term} (h : okA a) : zhS a = (true, zed a) := zQP h.1.1 (by omega) h.1.2
theorem zRI {a b : List Term} (ha : okA a) (hb : okA b) : zmk a b = (true, addR a b) ∧ zyz a b = (true, addR a b) := by
 unfold zmk zuo zyz zEy addR
 simp only [Wy.fin_bn, Wy.fin_i, Wy.fin_k, ha.valid, hb.valid, ha.rvalid, hb.rvalid, cond_true]
 cases va : zed a with
 | false => first | exact ⟨trivial, trivial⟩ | exact ⟨rfl, rfl⟩ | exact ⟨trivial, rfl⟩ | exact ⟨rfl, trivial⟩
 | true =>
  cases vb : zed b with
  | false => first | exact ⟨trivial, trivial⟩ | exact ⟨rfl, rfl⟩ | exact ⟨trivial, rfl⟩ | exact ⟨rfl, trivial⟩
  | true =>
   obtain ⟨sa, la, ta⟩ := zro va ha.2.1
   obtain ⟨sb, lb, tb⟩ := zro vb hb.2.1
   have ga : ∀ t ∈ a, GT t := fun t ht => (ta t ht).1
   have gb : ∀ t ∈ b, GT t := fun t ht => (tb t ht).1
   have hc := zS7 [a, b] (by simp) (fun l hl => by
    simp only [List.mem_cons, List.not_mem_nil, or_false] at hl
    rcases hl with rfl | rfl <;> omega)
   have e : [a, b].flatten = a ++ b := by simp
   have hcol := zLM (a ++ b) (by simp; omega) fun t ht => by
    rcases List.mem_append.1 ht with ht | ht
    ·exact ga t ht
    ·exact gb t ht
   rw [e] at hc
   rw [zTn a b sa] at hcol
   have hsl : (sumA a b).length ≤ 1000000 := by have := zBl b a; omega
   obtain ⟨f1, f2⟩ := zPt hsl (zFb b a sa ga gb)
   simp only [Bool.not_true, cond_false, Bool.and_self, hc, hcol, zwy f1 (by omega : 10 ≤ 100) f2, zTq a b ga gb sa la lb, zIi f1 (by omega : 10 ≤ 100) f2, cond_true]
   first | exact ⟨trivial, trivial⟩ | exact ⟨rfl, rfl⟩ | exact ⟨trivial, rfl⟩ | exact ⟨rfl, trivial⟩
theorem zSc {a b : List Term} (ha : okA a) (hb : okA b) : zmm a b = (true, mulR a b) ∧ zzo a b = (true, mulR a b) := by
 unfold zmm zuv zzo zEq mulR
 simp only [Wy.fin_bn, Wy.fin_i, Wy.fin_k, ha.valid, hb.valid, ha.rvalid, hb.rvalid, cond_true]
 cases va : zed a with
 | false => first | exact ⟨trivial, trivial⟩ | exact ⟨rfl, rfl⟩ | exact ⟨trivial, rfl⟩ | exact ⟨rfl, trivial⟩
 | true =>
  cases vb : zed b with
  | false => first | exact ⟨trivial, trivial⟩ | exact ⟨rfl, rfl⟩ | exact ⟨trivial, rfl⟩ | exact ⟨rfl, trivial⟩
  | true =>
   obtain ⟨sa, la, ta⟩ := zro va ha.2.1
   obtain ⟨sb, lb, tb⟩ := zro vb hb.2.1
   have hm := zU8 a b ta tb la lb (b.length + a.length + (Int.ofNat a.length).toNat + Int.toNat (0 : Int) + (0 : Nat) + (1 : Nat)) (by omega)
   have hm : ztf (b.length + a.length + (Int.ofNat a.length).toNat + Int.toNat (0 : Int) + (0 : Nat) + (1 : Nat)) b a (Int.ofNat a.length) 0 [] = _ := hm
   have hpl : (zeZ a b).length ≤ 1000000 := by rw [zH7]; have := Nat.mul_le_mul la lb; omega
   have hcol := zLM (zeZ a b) hpl (zKL ta tb)
   have hsl : (zGd a b).length ≤ 1000000 := by have := zBl (zeZ a b) []; simp at this; exact Nat.le_trans this hpl
   obtain ⟨f1, f2⟩ := zPt hsl (zFb (zeZ a b) [] .nil (fun t ht => by cases ht) (zKL ta tb))
   have f1 : zF 10 (zGd a b) := f1
   have f2 : zR (zGd a b) ≤ 4611686018427387904 := f2
   have hcol : zgp (zeZ a b) = (true, zGd a b) := hcol
   simp only [Bool.not_true, cond_false, Bool.and_self, hm, hcol, zwy f1 (by omega : 10 ≤ 100) f2, zSQ a b ta tb la lb, zIi f1 (by omega : 10 ≤ 100) f2, cond_true]
   first | exact ⟨trivial, trivial⟩ | exact ⟨rfl, rfl⟩ | exact ⟨trivial, rfl⟩ | exact ⟨rfl, trivial⟩
theorem zF2 {l : List (List Term)} {k : Int} (hl : l.length ≤ 2) (h : ∀ a ∈ l, zed a = true) : zF 10 (oneA ⟨k, ⟨0, 0⟩, l, 0, [], 0, ⟨0, 0, ByteArray.mk #[]⟩⟩) ∧ zR (oneA ⟨k, ⟨0, 0⟩, l, 0, [], 0, ⟨0, 0, ByteArray.mk #[]⟩⟩) ≤ 4611686018427387904 := by
 constructor
 ·exact zNg ⟨⟨by simp only; omega, by simp, by show (ByteArray.mk #[]).size ≤ _; decide⟩, fun a ha => (zfz (h a ha)).1, fun w hw => (by cases hw)⟩
 ·rw [zO3, zg6]
  have hb : ∀ l : List (List Term), (∀ a ∈ l, zed a = true) → zeo l ≤ l.length * 4096 := fun l => by
   induction l with
   | nil => intro _; rw [zgM]; simp
   | cons a r ih =>
    intro h
    have h1 := (zfz (h a (by simp))).2.1
    have h2 := ih fun b hb => h b (by simp [hb])
    rw [zd1, List.length_cons, Nat.add_mul]; omega
  have := hb l h
  show 2 + (zeo l + zdd []) ≤ _
  rw [ze2]
  have := Nat.mul_le_mul hl (Nat.le_refl 4096)
  omega
theorem zMb (a : List Term) : (Int.ofNat a.length == (0 : Int)) = decide (a = []) := by
 rw [show (Int.ofNat a.length == (0 : Int)) = (a.length == 0) from zsx _ 0, beqn]
 congr 1
 rw [List.length_eq_zero_iff]
theorem zO4 {a b : List Term} (ha : okA a) (hb : okA b) : zj6 a b = (true, monR a b) ∧ zug a b = (true, monR a b) := by
 unfold zj6 zrH zug zz6 monR
 simp only [Wy.fin_bn, Wy.fin_i, Wy.fin_k, ha.valid, hb.valid, ha.rvalid, hb.rvalid, cond_true]
 cases va : zed a with
 | false => first | exact ⟨trivial, trivial⟩ | exact ⟨rfl, rfl⟩ | exact ⟨trivial, rfl⟩ | exact ⟨rfl, trivial⟩
 | true =>
  cases vb : zed b with
  | false => first | exact ⟨trivial, trivial⟩ | exact ⟨rfl, rfl⟩ | exact ⟨trivial, rfl⟩ | exact ⟨rfl, trivial⟩
  | true =>
   obtain ⟨f1, f2⟩ := zF2 (l := [a, b]) (k := 1) (by simp) (fun x hx => by
    simp only [List.mem_cons, List.not_mem_nil, or_false] at hx
    rcases hx with rfl | rfl
    ·exact va
    ·exact vb)
   simp only [Bool.not_true, cond_false, Bool.and_self, zMb, zIg ha.1.1 (by omega : 12 ≤ 100), zxk ha.1.1 (by omega : 12 ≤ 100), zp5 ha.1.1 (by omega : 12 ≤ 100), zDv, zJl, zwy f1 (by omega : 10 ≤ 100) f2, zIi f1 (by omega : 10 ≤ 100) f2, cond_true, opR]
   by_cases hb0 : b = []
   ·simp only [hb0, decide_true, cond_true, if_true]; exact ⟨trivial, trivial⟩
   ·by_cases ha0 : a = []
    ·simp only [hb0, ha0, decide_true, decide_false, cond_true, cond_false, if_true, if_false, true_or]; exact ⟨trivial, trivial⟩
    ·by_cases hab : a = b
     ·simp only [hb0, ha0, hab, decide_true, decide_false, cond_true, cond_false, if_true, if_false, or_true]; exact ⟨trivial, trivial⟩
     ·simp only [hb0, ha0, hab, decide_false, cond_false, if_false, or_self]; first | exact ⟨trivial, trivial⟩ | exact ⟨rfl, rfl⟩ | exact ⟨trivial, rfl⟩ | exact ⟨rfl, trivial⟩
theorem zPd {a : List Term} (ha : okA a) : zj5 a = (true, delR a) ∧ ztT a = (true, delR a) := by
 unfold zj5 zrW ztT zzI delR
 simp only [Wy.fin_bn, Wy.fin_i, Wy.fin_k, ha.valid, ha.rvalid, cond_true]
 cases va : zed a with
 | false => first | exact ⟨trivial, trivial⟩ | exact ⟨rfl, rfl⟩ | exact ⟨trivial, rfl⟩ | exact ⟨rfl, trivial⟩
 | true =>
  obtain ⟨f1, f2⟩ := zF2 (l := [a]) (k := 2) (by simp) (fun x hx => by rw [List.mem_singleton] at hx; subst hx; exact va)
  have hla : a.length ≤ 1000000000 := by have := (zfz va).2.2; omega
  have hbu : isB a = isU a := zI6 va
  simp only [Bool.not_true, cond_false, zMb, zIg ha.1.1 (by omega : 12 ≤ 100), zMY, zG3, zDY, ztm a hla, zDv, zJl, zwy f1 (by omega : 10 ≤ 100) f2, zIi f1 (by omega : 10 ≤ 100) f2, cond_true, opR, hbu]
  rw [show fitR (oneA ⟨2, ⟨0, 0⟩, [a], 0, [], 0, ⟨0, 0, ByteArray.mk #[]⟩⟩) = fitR (oneA (delA a)) from rfl]
  clear f1 f2
  generalize fitR (oneA (delA a)) = R
  by_cases h0 : a = []
  ·simp only [h0, decide_true, cond_true, if_true, true_or]; exact ⟨trivial, trivial⟩
  ·cases hu : isU a with
   | true => simp only [h0, decide_false, cond_false, cond_true, if_true, or_true]; exact ⟨trivial, trivial⟩
   | false =>
    simp only [h0, decide_false, cond_false, if_false, or_self, Bool.false_eq_true]
    match a, h0 with
    | [t], _ =>
     have e1 : hasC [t] = (t.Factors.length == 0) := by simp [hasC]
     have e2 : isC [t] = (t.Factors.length == 0) := rfl
     rw [e1, e2]
     cases (t.Factors.length == 0) with
     | true => simp only [cond_true, if_true]; first | exact ⟨trivial, trivial⟩ | exact ⟨rfl, rfl⟩ | exact ⟨trivial, rfl⟩ | exact ⟨rfl, trivial⟩
     | false => simp only [cond_false, cond_true, Bool.false_eq_true, if_false]; first | exact ⟨trivial, trivial⟩ | exact ⟨rfl, rfl⟩ | exact ⟨trivial, rfl⟩ | exact ⟨rfl, trivial⟩
    | t :: s :: r, _ =>
     have e2 : isC (t :: s :: r) = false := rfl
     simp only [len2, e2, cond_false, cond_true, Bool.false_eq_true, if_false]
     first | exact ⟨trivial, trivial⟩ | exact ⟨rfl, rfl⟩ | exact ⟨trivial, rfl⟩ | exact ⟨rfl, trivial⟩
theorem zM3 {a : List Term} (ha : okA a) : zjo a = (true, absR a) ∧ zrs a = (true, absR a) := by
 unfold zjo zqB zrs zxv absR
 simp only [Wy.fin_bn, Wy.fin_i, Wy.fin_k, ha.valid, ha.rvalid, cond_true]
 cases va : zed a with
 | false => first | exact ⟨trivial, trivial⟩ | exact ⟨rfl, rfl⟩ | exact ⟨trivial, rfl⟩ | exact ⟨rfl, trivial⟩
 | true =>
  obtain ⟨f1, f2⟩ := zF2 (l := [a]) (k := 3) (by simp) (fun x hx => by rw [List.mem_singleton] at hx; subst hx; exact va)
  have hla : a.length ≤ 1000000000 := by have := (zfz va).2.2; omega
  simp only [Bool.not_true, cond_false, zMb, zFw a hla, ztm a hla, zDv, zJl, zwy f1 (by omega : 10 ≤ 100) f2, zIi f1 (by omega : 10 ≤ 100) f2, cond_true, opR]
  by_cases h0 : a = []
  ·simp only [h0, decide_true, cond_true, if_true]; first | exact ⟨trivial, trivial⟩ | exact ⟨rfl, rfl⟩ | exact ⟨trivial, rfl⟩ | exact ⟨rfl, trivial⟩
  ·cases hu : hasC a with
   | true => simp only [h0, decide_false, cond_false, cond_true, if_true, if_false]; exact ⟨trivial, trivial⟩
   | false => simp only [h0, decide_false, cond_false, if_false, Bool.false_eq_true]; first | exact ⟨trivial, trivial⟩ | exact ⟨rfl, rfl⟩ | exact ⟨trivial, rfl⟩ | exact ⟨rfl, trivial⟩
theorem zLE {n : Int} (h : rng n) : wf3 n := by
 show (Lit.int .i64 n).wf = true
 have : IntKind.i64.min ≤ n ∧ n ≤ IntKind.i64.max := ⟨h.1, h.2⟩
 simpa [Lit.wf] using this
theorem zM0 {t : Term} (hc : rng t.Coeff) (hf : ∀ f ∈ t.Factors, ziQ f.Atom ∧ rng f.Exp) (hl : t.Factors.length ≤ 1000000) : ztX t := by
 obtain ⟨c, fs⟩ := t
 unfold ztX
 refine ⟨zLE hc, zB5 fs fun f h => ?_, by have : roomLen = 140737488351232 := rfl; simp only at hl; omega⟩
 obtain ⟨x, e⟩ := f
 unfold zpR
 exact ⟨(hf _ h).1, zLE (hf _ h).2⟩
def okR (r : List Term × Int) : Prop := okA r.1 ∧ (r.2 = 0 ∨ r.1 = [])
theorem zBm : okA [] := ⟨⟨zSu 11, by rw [zvF]; omega⟩, by unfold zh8; trivial, by simp⟩
theorem zFA {a : List Term} (h : okA a) : okR (fitR a) := by
 unfold fitR
 cases znx a with
 | true => exact ⟨h, .inl rfl⟩
 | false => exact ⟨zBm, .inr rfl⟩
theorem zIo {ok : Bool} {r : List Term × Int} (h : ok = true → okR r) : okR (opR ok r) := by
 unfold opR
 cases ok with
 | true => exact h rfl
 | false => exact ⟨zBm, .inr rfl⟩
theorem zMr {l : List Term} (hl : l.length ≤ 1000000) (h : ∀ t ∈ l, GT t) : okA l := by
 obtain ⟨h1, h2⟩ := zPt hl h
 refine ⟨⟨h1.mono (by omega), h2⟩, zGb l fun t ht => ?_, by have : roomLen = 140737488351232 := rfl; omega⟩
 have hg := h t ht
 exact zM0 ⟨by have := hg.1.1; omega, by have := hg.1.2; omega⟩ (fun f hf => ⟨(hg.2.2 f hf).1.2.1, (hg.2.2 f hf).gF.2.2⟩) (by have := hg.2.1; omega)
theorem zTL {a b : List Term} (ha : okA a) (hb : okA b) : okR (addR a b) := zIo fun hv => by
 rw [Bool.and_eq_true] at hv
 obtain ⟨sa, la, ta⟩ := zro hv.1 ha.2.1
 obtain ⟨sb, lb, tb⟩ := zro hv.2 hb.2.1
 exact zFA (zMr (by have := zBl b a; omega) (zFb b a sa (fun t ht => (ta t ht).1) fun t ht => (tb t ht).1))
theorem zTD {a b : List Term} (ha : okA a) (hb : okA b) : okR (mulR a b) := zIo fun hv => by
 rw [Bool.and_eq_true] at hv
 obtain ⟨sa, la, ta⟩ := zro hv.1 ha.2.1
 obtain ⟨sb, lb, tb⟩ := zro hv.2 hb.2.1
 have hpl : (zeZ a b).length ≤ 1000000 := by rw [zH7]; have := Nat.mul_le_mul la lb; omega
 exact zFA (zMr (by have := zBl (zeZ a b) []; simp at this; exact Nat.le_trans this hpl) (zFb (zeZ a b) [] .nil (fun t ht => by cases ht) (zKL ta tb)))
theorem zOi {x : Atom} (hf : zdc (zF 9) x) (hs : zR (oneA x) ≤ 4611686018427387904) (hw : ziQ x) : okA (oneA x) := by
 refine ⟨⟨(zNg hf).mono (by omega), hs⟩, zGb _ fun t ht => ?_, by simp [oneA, roomLen]⟩
 simp only [oneA, List.mem_singleton] at ht
 subst ht
 refine zM0 ⟨by simp, by simp⟩ (fun f hf => ?_) (by simp)
 simp only [List.mem_singleton] at hf
 subst hf
 exact ⟨hw, ⟨by simp, by simp⟩⟩
theorem zNt {n : Int} (h : -1000 ≤ n ∧ n ≤ 1000) : rng n := ⟨by omega, by omega⟩
theorem zox : wf3 0 := zLE (zNt (by omega))
theorem zIH {l : List (List Term)} {k : Int} (hk : 0 ≤ k ∧ k ≤ 4) (hl : l.length ≤ 2) (h : ∀ a ∈ l, zed a = true) (hw : ∀ a ∈ l, okA a) : okA (oneA ⟨k, ⟨0, 0⟩, l, 0, [], 0, ⟨0, 0, ByteArray.mk #[]⟩⟩) := by
 refine zOi ⟨⟨by simp only; omega, by simp, by show (ByteArray.mk #[]).size ≤ _; decide⟩, fun a ha => (zfz (h a ha)).1, fun w hw => (by cases hw)⟩ (zF2 hl h).2 ?_
 unfold ziQ
 have hr : roomLen = 140737488351232 := rfl
 refine ⟨zLE (zNt (by omega)), ⟨zox, zox⟩, ⟨zIG l fun a ha => ⟨(hw a ha).2.1, (hw a ha).2.2⟩, by omega⟩, zox, ⟨by unfold zoV; trivial, by simp⟩, zox, ⟨zox, zox, ?_⟩⟩
 show (ByteArray.mk #[]).size ≤ roomLen
 rw [hr]; decide
theorem zUa {a b : List Term} (ha : okA a) (hb : okA b) : okR (monR a b) := zIo fun hv => by
 rw [Bool.and_eq_true] at hv
 split
 ·exact ⟨ha, .inl rfl⟩
 ·split
  ·exact ⟨zBm, .inl rfl⟩
  ·refine zFA (zIH (by omega) (by simp) (fun x hx => ?_) fun x hx => ?_)
   ·simp only [List.mem_cons, List.not_mem_nil, or_false] at hx
    rcases hx with rfl | rfl
    ·exact hv.1
    ·exact hv.2
   ·simp only [List.mem_cons, List.not_mem_nil, or_false] at hx
    rcases hx with rfl | rfl
    ·exact ha
    ·exact hb
theorem zMM (c : Int) (hc : 1 ≤ c ∧ c ≤ 1152921504606846976) : okA [⟨c, []⟩] := zMr (by simp) fun t ht => by
 rw [List.mem_singleton] at ht; subst ht
 exact ⟨hc, by simp, fun f hf => by cases hf⟩
theorem zTM {a : List Term} (ha : okA a) : okR (delR a) := zIo fun hv => by
 split
 ·exact ⟨ha, .inl rfl⟩
 ·split
  ·exact ⟨zMM 1 (by omega), .inl rfl⟩
  ·exact zFA (zIH (by omega) (by simp) (fun x hx => by rw [List.mem_singleton] at hx; subst hx; exact hv) fun x hx => by rw [List.mem_singleton] at hx; subst hx; exact ha)
theorem zTJ {a : List Term} (ha : okA a) : okR (absR a) := zIo fun hv => by
 split
 ·exact ⟨zMM 1 (by omega), .inl rfl⟩
 ·split
  ·exact ⟨zBm, .inl rfl⟩
  ·exact zFA (zIH (by omega) (by simp) (fun x hx => by rw [List.mem_singleton] at hx; subst hx; exact hv) fun x hx => by rw [List.mem_singleton] at hx; subst hx; exact ha)
def cstA (n : Int) : List Term := if n < 1 then [] else [⟨if 1152921504606846976 < n then 1152921504606846976 else n, []⟩]
def varA (id : RowID) : List Term := bif zsq id then oneA ⟨0, id, [], 0, [], 0, ⟨0, 0, ByteArray.mk #[]⟩⟩ else []
theorem zOj (n : Int) : zj9 n = (true, cstA n) ∧ ztz n = (true, cstA n) := by
 unfold zj9 zrZ ztz zzy cstA
 by_cases h : n < 1
 ·simp only [Wy.fin_i, Wy.fin_k, h, decide_true, cond_true, if_true]; exact ⟨trivial, trivial⟩
 ·simp only [Wy.fin_i, Wy.fin_k, h, decide_false, cond_false, if_false]; exact ⟨trivial, trivial⟩
theorem zRt (id : RowID) : zl8 id = (true, varA id) ∧ zyg id = (true, varA id) := by
 unfold zl8 zut zyg zEl varA zsq
 simp only [Wy.fin_i, Wy.fin_bn, Wy.fin_k, zvU, zDv, zJl, cond_true]
 unfold zsq
 have e1 : decide (id.Table < 1) = !decide (id.Table ≥ 1) := by
  by_cases h : id.Table < 1
  ·have : ¬ id.Table ≥ 1 := by omega
   simp only [h, this, decide_true, decide_false, Bool.not_false]
  ·have : id.Table ≥ 1 := by omega
   simp only [h, this, decide_true, decide_false, Bool.not_true]
 have e2 : decide (id.Seq < 1) = !decide (id.Seq ≥ 1) := by
  by_cases h : id.Seq < 1
  ·have : ¬ id.Seq ≥ 1 := by omega
   simp only [h, this, decide_true, decide_false, Bool.not_false]
  ·have : id.Seq ≥ 1 := by omega
   simp only [h, this, decide_true, decide_false, Bool.not_true]
 rw [e1, e2]
 cases decide (id.Table ≥ 1) <;> cases decide (id.Seq ≥ 1) <;> exact ⟨rfl, rfl⟩
theorem zUo (n : Int) : okA (cstA n) := by
 unfold cstA
 split
 ·exact zBm
 ·refine zMM _ ?_
  split <;> omega
theorem zUG {id : RowID} (h : wf25 id) : okA (varA id) := by
 unfold varA
 cases hr : zsq id with
 | false => exact zBm
 | true =>
  refine zOi ⟨⟨by simp, by simp, by show (ByteArray.mk #[]).size ≤ _; decide⟩, fun a ha => (by cases ha), fun w hw => (by cases hw)⟩ (by rw [zO3, zg6, zgM, ze2]; omega) ?_
  unfold ziQ
  refine ⟨zox, h, ⟨by unfold zt3; trivial, by simp⟩, zox, ⟨by unfold zoV; trivial, by simp⟩, zox, ⟨zox, zox, ?_⟩⟩
  show (ByteArray.mk #[]).size ≤ roomLen
  have hr : roomLen = 140737488351232 := rfl
  rw [hr]; decide
theorem okR.same {r : List Term × Int} (h : okR r) : zkh r.1 r.2 r.1 r.2 = (true, true) := zTA h.1.1.1 (by omega) h.2
theorem zQv {a : List Term} {n : Nat} (hn : n ≤ 1000) (h : zF 12 a ∧ zfP a ≤ n) (hw : wf23 a) : okA a := ⟨⟨h.1, by have := zA5 a; omega⟩, hw.1, hw.2⟩
theorem zKJ (a b : List Term) (n : Int) (id : RowID) (ha : wf23 a) (hb : wf23 b) (hn : wf2 n) (hid : wf25 id) : zdY a b n id = (true, true) := by
 obtain ⟨q, h1, h2⟩ := zUS 60 (by omega) [a, b] (by simp) (fun x hx => by
  simp only [List.mem_cons, List.not_mem_nil, or_false] at hx
  rcases hx with rfl | rfl
  ·exact ha
  ·exact hb)
 replace h1 : zuV (60 : Int) [a, b] = (true, q) := h1
 unfold zdY zj4
 rw [Wy.fin_bn, h1]
 cases q with
 | false => rfl
 | true =>
  have oa := zQv (by omega) (h2 rfl a (by simp)) ha
  have ob := zQv (by omega) (h2 rfl b (by simp)) hb
  have ec : zh7 (cstA n) (cstA n) = (true, true) := by rw [zp5 (zUo n).1.1 (by omega)]; simp
  have ev : zh7 (varA id) (varA id) = (true, true) := by rw [zp5 (zUG hid).1.1 (by omega)]; simp
  simp only [Wy.fin_i, Wy.fin_bn, Wy.fin_k, cond_true, cond_false, Bool.not_true, (zRI oa ob).1, (zRI oa ob).2, (zSc oa ob).1, (zSc oa ob).2, (zO4 oa ob).1, (zO4 oa ob).2, (zPd oa).1, (zPd oa).2, (zM3 oa).1, (zM3 oa).2, (zOj n).1, (zOj n).2, (zRt id).1, (zRt id).2,
   (zTL oa ob).same, (zTD oa ob).same, (zUa oa ob).same, (zTM oa).same, (zTJ oa).same, ec, ev]
end Go.Proofs.YtnolcogncjijpaaGreatDoor
end
