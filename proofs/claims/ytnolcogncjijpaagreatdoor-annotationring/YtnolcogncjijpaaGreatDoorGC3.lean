/- Texts of this claim, joined (the program, its functions in plain words, and what they compute). -/
import Derived.Test.YtnolcogncjijpaaGreatDoorGC1
import Derived.Test.YtnolcogncjijpaaGreatDoorGA2
import Derived.Test.YtnolcogncjijpaaGreatDoorGB1
import Derived.Test.YtnolcogncjijpaaGreatDoorGC2
set_option autoImplicit false
set_option linter.unusedVariables false
set_option linter.unusedSectionVars false
set_option linter.unusedSimpArgs false
set_option maxRecDepth 1000000
set_option maxHeartbeats 0
/- Annotations as trees; how deep and how wide they are. -/
noncomputable section
namespace Go.Proofs.YtnolcogncjijpaaGreatDoor
open Go Go.Ab
def trV (v : Value) : TT := .l [.i v.Kind, .i v.Int, trB v.Text]
mutual
def zdx : Atom → TT
 | ⟨k, r, a, f, i, o, b⟩ => .l [.i k, .i r.Table, .i r.Seq, .l (zpo a), .i f, .l (zf3 i), .i o, trV b]
def zmc : Factor → TT
 | ⟨x, e⟩ => .l [zdx x, .i e]
def zbp : List Factor → List TT
 | [] => []
 | x :: r => zmc x :: zbp r
def zrA : Term → TT
 | ⟨c, fs⟩ => .l [.l (zbp fs), .i c]
def zcJ : List Term → List TT
 | [] => []
 | x :: r => zrA x :: zcJ r
def zpo : List (List Term) → List TT
 | [] => []
 | x :: r => .l (zcJ x) :: zpo r
def ze8 : Weighted → TT
 | ⟨v, a⟩ => .l [trV v, .l (zcJ a)]
def zf3 : List Weighted → List TT
 | [] => []
 | x :: r => ze8 x :: zf3 r
end
theorem zps : ∀ l, zbp l = l.map zmc
 | [] => by rw [zbp]; rfl
 | x :: r => by rw [zbp, zps r]; rfl
theorem zx0 : ∀ l, zcJ l = l.map zrA
 | [] => by rw [zcJ]; rfl
 | x :: r => by rw [zcJ, zx0 r]; rfl
theorem zvt : ∀ l, zpo l = l.map fun x => .l (zcJ x)
 | [] => by rw [zpo]; rfl
 | x :: r => by rw [zpo, zvt r]; rfl
theorem znD : ∀ l, zf3 l = l.map ze8
 | [] => by rw [zf3]; rfl
 | x :: r => by rw [zf3, znD r]; rfl
theorem zyo : ∀ a b : List UInt8, (a.map fun x => TT.i (x.toNat : Int)) = (b.map fun x => TT.i (x.toNat : Int)) → a = b
 | [], [] => fun _ => rfl
 | [], _ :: _ => fun h => by simp at h
 | _ :: _, [] => fun h => by simp at h
 | x :: a, y :: b => fun h => by
  simp only [List.map, List.cons.injEq, TT.i.injEq] at h
  rw [zyo a b h.2, UInt8.toNat_inj.1 (Int.ofNat.inj h.1)]
theorem zMk {a b : Value} (h : trV a = trV b) : a = b := by
 obtain ⟨k, n, s⟩ := a; obtain ⟨k', n', s'⟩ := b
 simp only [trV, trB, TT.l.injEq, List.cons.injEq, TT.i.injEq, and_true] at h
 obtain ⟨rfl, rfl, h⟩ := h
 have := zyo _ _ h
 obtain ⟨⟨l⟩⟩ := s; obtain ⟨⟨l'⟩⟩ := s'
 simp only at this; subst this; rfl
mutual
theorem zHS : ∀ a b : Atom, zdx a = zdx b → a = b
 | ⟨k, r, a, f, i, o, v⟩, ⟨k', r', a', f', i', o', v'⟩ => fun h => by
  simp only [zdx, TT.l.injEq, List.cons.injEq, TT.i.injEq, and_true] at h
  obtain ⟨rfl, h1, h2, h3, rfl, h4, rfl, h5⟩ := h
  obtain ⟨t, s⟩ := r; obtain ⟨t', s'⟩ := r'
  simp only at h1 h2; subst h1 h2
  rw [zHU a a' h3, zGy i i' h4, zMk h5]
theorem zKs : ∀ a b : Factor, zmc a = zmc b → a = b
 | ⟨x, e⟩, ⟨x', e'⟩ => fun h => by
  simp only [zmc, TT.l.injEq, List.cons.injEq, TT.i.injEq, and_true] at h
  rw [zHS x x' h.1, h.2]
theorem zyF : ∀ a b : List Factor, zbp a = zbp b → a = b
 | [], [] => fun _ => rfl
 | [], _ :: _ => fun h => by simp [zbp] at h
 | _ :: _, [] => fun h => by simp [zbp] at h
 | x :: a, y :: b => fun h => by
  simp only [zbp, List.cons.injEq] at h
  rw [zKs x y h.1, zyF a b h.2]
theorem zMV : ∀ a b : Term, zrA a = zrA b → a = b
 | ⟨c, l⟩, ⟨c', l'⟩ => fun h => by
  simp only [zrA, TT.l.injEq, List.cons.injEq, TT.i.injEq, and_true] at h
  rw [zyF l l' h.1, h.2]
theorem zyd : ∀ a b : List Term, zcJ a = zcJ b → a = b
 | [], [] => fun _ => rfl
 | [], _ :: _ => fun h => by simp [zcJ] at h
 | _ :: _, [] => fun h => by simp [zcJ] at h
 | x :: a, y :: b => fun h => by
  simp only [zcJ, List.cons.injEq] at h
  rw [zMV x y h.1, zyd a b h.2]
theorem zHU : ∀ a b : List (List Term), zpo a = zpo b → a = b
 | [], [] => fun _ => rfl
 | [], _ :: _ => fun h => by simp [zpo] at h
 | _ :: _, [] => fun h => by simp [zpo] at h
 | x :: a, y :: b => fun h => by
  simp only [zpo, List.cons.injEq, TT.l.injEq] at h
  rw [zyd x y h.1, zHU a b h.2]
theorem zM0 : ∀ a b : Weighted, ze8 a = ze8 b → a = b
 | ⟨c, l⟩, ⟨c', l'⟩ => fun h => by
  simp only [ze8, TT.l.injEq, List.cons.injEq, and_true] at h
  rw [zMk h.1, zyd l l' h.2]
theorem zGy : ∀ a b : List Weighted, zf3 a = zf3 b → a = b
 | [], [] => fun _ => rfl
 | [], _ :: _ => fun h => by simp [zf3] at h
 | _ :: _, [] => fun h => by simp [zf3] at h
 | x :: a, y :: b => fun h => by
  simp only [zf3, List.cons.injEq] at h
  rw [zM0 x y h.1, zGy a b h.2]
end
def zdL (P : List Term → Prop) (x : Atom) : Prop :=
 (x.Args.length ≤ 1000000 ∧ x.Items.length ≤ 1000000 ∧ x.Bound.Text.size ≤ 1000000000000) ∧ (∀ a ∈ x.Args, P a) ∧ ∀ w ∈ x.Items, w.Value.Text.size ≤ 1000000000000 ∧ P w.Ann
def zfi (P : List Term → Prop) (l : List Factor) : Prop := l.length ≤ 1000000 ∧ ∀ f ∈ l, zdL P f.Atom
def zA : Nat → List Term → Prop
 | 0, _ => False
 | n + 1, a => a.length ≤ 1000000 ∧ ∀ t ∈ a, zfi (zA n) t.Factors
theorem zdL.imp {P Q : List Term → Prop} (h : ∀ a, P a → Q a) {x : Atom} (hx : zdL P x) : zdL Q x := ⟨hx.1, fun a ha => h a (hx.2.1 a ha), fun w hw => ⟨(hx.2.2 w hw).1, h _ (hx.2.2 w hw).2⟩⟩
theorem zA.succ : ∀ (n : Nat) (a : List Term), zA n a → zA (n + 1) a
 | 0, _, h => h.elim
 | n + 1, a, h => ⟨h.1, fun t ht => ⟨(h.2 t ht).1, fun f hf => ((h.2 t ht).2 f hf).imp (zA.succ n)⟩⟩
theorem zA.mono {n m : Nat} {a : List Term} (h : zA n a) (hm : n ≤ m) : zA m a := by
 obtain ⟨k, rfl⟩ := Nat.exists_eq_add_of_le hm
 clear hm
 induction k with
 | zero => exact h
 | succ k ih => exact zA.succ _ _ ih
theorem zpE : ∀ {l : List Factor}, zna l → ∀ x ∈ l, zo1 x
 | [], _, x, hx => by cases hx
 | y :: r, h, x, hx => by
  unfold zna at h
  rcases List.mem_cons.1 hx with rfl | hx
  ·exact h.1
  ·exact zpE h.2 x hx
theorem ztU : ∀ {l : List Term}, zhZ l → ∀ x ∈ l, zsR x
 | [], _, x, hx => by cases hx
 | y :: r, h, x, hx => by
  unfold zhZ at h
  rcases List.mem_cons.1 hx with rfl | hx
  ·exact h.1
  ·exact ztU h.2 x hx
theorem zlB : ∀ {l : List (List Term)}, zu4 l → ∀ x ∈ l, zhZ x ∧ x.length ≤ roomLen
 | [], _, x, hx => by cases hx
 | y :: r, h, x, hx => by
  unfold zu4 at h
  rcases List.mem_cons.1 hx with rfl | hx
  ·exact h.1
  ·exact zlB h.2 x hx
theorem zpS : ∀ {l : List Weighted}, zrT l → ∀ x ∈ l, wf46 x.Value ∧ zhZ x.Ann ∧ x.Ann.length ≤ roomLen
 | [], _, x, hx => by cases hx
 | y :: r, h, x, hx => by
  unfold zrT at h
  rcases List.mem_cons.1 hx with rfl | hx
  ·have := h.1; unfold zC7 at this; exact ⟨this.1, this.2.1, this.2.2⟩
  ·exact zpS h.2 x hx
theorem zvD {t : Term} (h : zsR t) : wf2 t.Coeff ∧ zna t.Factors ∧ t.Factors.length ≤ roomLen := by
 unfold zsR at h; exact ⟨h.1, h.2.1, h.2.2⟩
theorem zqJ {t : Factor} (h : zo1 t) : zlm t.Atom ∧ wf3 t.Exp := by
 unfold zo1 at h; exact h
theorem zu1 {x : Atom} (h : zlm x) : (zu4 x.Args ∧ x.Args.length ≤ roomLen) ∧ (zrT x.Items ∧ x.Items.length ≤ roomLen) ∧ wf46 x.Bound ∧ wf3 x.Kind ∧ wf25 x.Row ∧ wf3 x.Func ∧ wf3 x.Op := by
 obtain ⟨k, r, a, f, i, o, b⟩ := x; unfold zlm at h; exact ⟨h.2.2.1, h.2.2.2.2.1, h.2.2.2.2.2.2, h.1, h.2.1, h.2.2.2.1, h.2.2.2.2.2.1⟩
theorem zhR {z : Int} (h0 : -4611686018427387904 ≤ z) (h : z < 4611686018427387904) : IntKind.i64.wrap z = z := zFY (by omega) (by omega)
mutual
def zzJ : Atom → Nat
 | ⟨_, _, a, _, i, _, b⟩ => i.length + a.length + b.Text.size + zm5 a + zk0 i
def zh5 : List Factor → Nat
 | [] => 0
 | ⟨x, _⟩ :: r => zzJ x + zh5 r
def zfI : List Term → Nat
 | [] => 0
 | ⟨_, fs⟩ :: r => 1 + fs.length + zh5 fs + zfI r
def zm5 : List (List Term) → Nat
 | [] => 0
 | a :: r => zfI a + zm5 r
def zk0 : List Weighted → Nat
 | [] => 0
 | ⟨v, a⟩ :: r => v.Text.size + zfI a + zk0 r
end
theorem zNe (x : Atom) : zzJ x = x.Items.length + x.Args.length + x.Bound.Text.size + zm5 x.Args + zk0 x.Items := by cases x; rw [zzJ]
theorem zH8 (f : Factor) (r : List Factor) : zh5 (f :: r) = zzJ f.Atom + zh5 r := by cases f; rw [zh5]
theorem zLK (t : Term) (r : List Term) : zfI (t :: r) = 1 + t.Factors.length + zh5 t.Factors + zfI r := by cases t; rw [zfI]
theorem zLh (a : List Term) (r : List (List Term)) : zm5 (a :: r) = zfI a + zm5 r := by rw [zm5]
theorem zJT (w : Weighted) (r : List Weighted) : zk0 (w :: r) = w.Value.Text.size + zfI w.Ann + zk0 r := by cases w; rw [zk0]
theorem zLA : zm5 [] = 0 := by rw [zm5]
theorem zK8 : zk0 [] = 0 := by rw [zk0]
theorem zID : zh5 [] = 0 := by rw [zh5]
theorem zM4 : zfI [] = 0 := by rw [zfI]
section
variable (g : List Term → Int → Int → Bool × Int) (a : List Term) (limit d : Nat) (hl : limit ≤ 1000) (hd : d ≤ 100) (B : Nat) (hB : B ≤ 1152921504606846976) (P : List Term → Prop)
include hl hd hB
theorem w14 (x : Atom) (i k : Int) (hlen : x.Args.length ≤ roomLen) (hg : ∀ y ∈ x.Args, ∀ l : Nat, l ≤ 1000 → ∃ w : Nat, g y l d = (true, (w : Int)) ∧ w ≤ B ∧ (w ≤ l → P y ∧ zfI y ≤ w)) :
  ∀ (fuel j n : Nat), x.Args.length < j + fuel → j ≤ x.Args.length → n ≤ 2305843009213693952 → ∃ n' : Nat, zq1 g fuel a limit (d + 1 : Nat) n i k j x = (true, (a, (limit : Int), ((d + 1 : Nat) : Int), (n' : Int), i, k, x)) ∧ n ≤ n' ∧ n' ≤ max n (limit + B) ∧ (n' ≤ limit → (∀ y ∈ x.Args.drop j, P y) ∧ n + zm5 (x.Args.drop j) ≤ n')
 | 0, j, n, h1, h2, h3 => by omega
 | fuel + 1, j, n, h1, h2, h3 => by
  show ∃ n' : Nat, (zqZ g a limit (d + 1 : Nat) n i k j x).ev (fun x y => zq1 g fuel x.1 x.2.1 x.2.2.1 x.2.2.2.1 x.2.2.2.2.1 x.2.2.2.2.2.1 x.2.2.2.2.2.2.2.1 y.1) (fun r => (true, r)) (false, default) = _ ∧ _
  unfold zqZ
  have hml : roomLen = 140737488351232 := rfl
  by_cases hj : j < x.Args.length
  ·by_cases hn : n ≤ limit
   ·have e1 : IntKind.i64.wrap ((limit : Int) - (n : Int)) = ((limit - n : Nat) : Int) := by rw [zhR (by omega) (by omega)]; omega
    obtain ⟨w, hw, hwB, hwP⟩ := hg _ (zC hj) (limit - n) (by omega)
    have ed : IntKind.i64.wrap (((d + 1 : Nat) : Int) - 1) = (d : Int) := by rw [zhR (by omega) (by omega)]; omega
    simp only [Wy.ev_i, Wy.ev_k, Wy.ev_h, Wy.ev_bn, Wy.ev_d, tT, hj, zs6, hn, e1, ed, hw]
    have e3 : IntKind.i64.wrap ((n : Int) + (w : Int)) = ((n + w : Nat) : Int) := by rw [zhR (by omega) (by omega)]; omega
    rw [e3, zY (by omega)]
    obtain ⟨n', h4, h5, h6, h7⟩ := w14 x i k hlen hg fuel (j + 1) (n + w) (by omega) (by omega) (by omega)
    refine ⟨n', h4, by omega, by omega, fun hn' => ?_⟩
    obtain ⟨h8, h9⟩ := h7 hn'
    obtain ⟨p1, p2⟩ := hwP (by omega)
    rw [zbF hj, zLh]
    refine ⟨fun y hy => ?_, by omega⟩
    rcases List.mem_cons.1 hy with rfl | hy
    ·exact p1
    ·exact h8 y hy
   ·simp only [Wy.ev_i, Wy.ev_k, Wy.ev_h, Wy.ev_bn, Wy.ev_d, tT, hj, zs6, hn]
    exact ⟨n, rfl, Nat.le_refl _, by omega, fun h => absurd h hn⟩
  ·simp only [Wy.ev_i, Wy.ev_k, Wy.ev_h, Wy.ev_bn, Wy.ev_d, tT, hj]
   exact ⟨n, rfl, Nat.le_refl _, by omega, fun _ => by rw [zeQ hj, zLA]; exact ⟨fun y hy => (by cases hy), Nat.le_refl _⟩⟩
theorem w18 (x : Atom) (i k : Int) (hlen : x.Items.length ≤ roomLen) (hg : ∀ y ∈ x.Items, y.Value.Text.size ≤ roomLen ∧ ∀ l : Nat, l ≤ 1000 → ∃ w : Nat, g y.Ann l d = (true, (w : Int)) ∧ w ≤ B ∧ (w ≤ l → P y.Ann ∧ zfI y.Ann ≤ w)) :
  ∀ (fuel j n : Nat), x.Items.length < j + fuel → j ≤ x.Items.length → n ≤ 2305843009213693952 → ∃ n' : Nat, zq0 g fuel a limit (d + 1 : Nat) n i k j x = (true, (a, (limit : Int), ((d + 1 : Nat) : Int), (n' : Int), i, k)) ∧ n ≤ n' ∧ n' ≤ max n (limit + roomLen + B) ∧ (n' ≤ limit → (∀ y ∈ x.Items.drop j, y.Value.Text.size ≤ 1000 ∧ P y.Ann) ∧ n + zk0 (x.Items.drop j) ≤ n')
 | 0, j, n, h1, h2, h3 => by omega
 | fuel + 1, j, n, h1, h2, h3 => by
  show ∃ n' : Nat, (zrB g a limit (d + 1 : Nat) n i k j x).ev (fun x y => zq0 g fuel x.1 x.2.1 x.2.2.1 x.2.2.2.1 x.2.2.2.2.1 x.2.2.2.2.2.1 x.2.2.2.2.2.2.2.1 y.1) (fun r => (true, r)) (false, default) = _ ∧ _
  unfold zrB
  have hml : roomLen = 140737488351232 := rfl
  by_cases hj : j < x.Items.length
  ·by_cases hn : n ≤ limit
   ·have e1 : IntKind.i64.wrap ((limit : Int) - (n : Int)) = ((limit - n : Nat) : Int) := by rw [zhR (by omega) (by omega)]; omega
    obtain ⟨ht, hgy⟩ := hg _ (zC hj)
    obtain ⟨w, hw, hwB, hwP⟩ := hgy (limit - n) (by omega)
    have ed : IntKind.i64.wrap (((d + 1 : Nat) : Int) - 1) = (d : Int) := by rw [zhR (by omega) (by omega)]; omega
    simp only [Wy.ev_i, Wy.ev_k, Wy.ev_h, Wy.ev_bn, Wy.ev_d, tT, hj, zs6, hn, e1, ed, hw]
    generalize hsz : (x.Items.getD j default).Value.Text.size = sz at *
    have e3 : IntKind.i64.wrap (IntKind.i64.wrap ((n : Int) + (sz : Int)) + (w : Int)) = ((n + sz + w : Nat) : Int) := by rw [zhR (z := (n : Int) + (sz : Int)) (by omega) (by omega), zhR (by omega) (by omega)]; omega
    rw [e3, zY (by omega)]
    obtain ⟨n', h4, h5, h6, h7⟩ := w18 x i k hlen hg fuel (j + 1) (n + sz + w) (by omega) (by omega) (by omega)
    refine ⟨n', h4, by omega, by omega, fun hn' => ?_⟩
    obtain ⟨h8, h9⟩ := h7 hn'
    obtain ⟨p1, p2⟩ := hwP (by omega)
    rw [zbF hj, zJT]
    refine ⟨fun y hy => ?_, by omega⟩
    rcases List.mem_cons.1 hy with rfl | hy
    ·exact ⟨by omega, p1⟩
    ·exact h8 y hy
   ·simp only [Wy.ev_i, Wy.ev_k, Wy.ev_h, Wy.ev_bn, Wy.ev_d, tT, hj, zs6, hn]
    exact ⟨n, rfl, Nat.le_refl _, by omega, fun h => absurd h hn⟩
  ·simp only [Wy.ev_i, Wy.ev_k, Wy.ev_h, Wy.ev_bn, Wy.ev_d, tT, hj]
   exact ⟨n, rfl, Nat.le_refl _, by omega, fun _ => by rw [zeQ hj, zK8]; exact ⟨fun y hy => (by cases hy), Nat.le_refl _⟩⟩
theorem w9 (i : Nat) (hi : i < a.length) (hla : (a.getD i default).Factors.length ≤ roomLen) (hg : ∀ f ∈ (a.getD i default).Factors, f.Atom.Args.length ≤ roomLen ∧ f.Atom.Items.length ≤ roomLen ∧ f.Atom.Bound.Text.size ≤ roomLen ∧ (∀ y ∈ f.Atom.Args, ∀ l : Nat, l ≤ 1000 → ∃ w : Nat, g y l d = (true, (w : Int)) ∧ w ≤ B ∧ (w ≤ l → P y ∧ zfI y ≤ w)) ∧
   ∀ y ∈ f.Atom.Items, y.Value.Text.size ≤ roomLen ∧ ∀ l : Nat, l ≤ 1000 → ∃ w : Nat, g y.Ann l d = (true, (w : Int)) ∧ w ≤ B ∧ (w ≤ l → P y.Ann ∧ zfI y.Ann ≤ w)) :
  ∀ (fuel k n : Nat), (a.getD i default).Factors.length < k + fuel → k ≤ (a.getD i default).Factors.length → n ≤ 2305843009213693952 → ∃ n' : Nat, zsw g fuel a limit (d + 1 : Nat) n i k = (true, (a, (limit : Int), ((d + 1 : Nat) : Int), (n' : Int), (i : Int))) ∧ n ≤ n' ∧ n' ≤ max n (limit + 4 * roomLen + B) ∧
   (n' ≤ limit → (∀ f ∈ (a.getD i default).Factors.drop k, (f.Atom.Args.length ≤ 1000 ∧ f.Atom.Items.length ≤ 1000 ∧ f.Atom.Bound.Text.size ≤ 1000) ∧ (∀ y ∈ f.Atom.Args, P y) ∧ ∀ y ∈ f.Atom.Items, y.Value.Text.size ≤ 1000 ∧ P y.Ann) ∧ n + zh5 ((a.getD i default).Factors.drop k) ≤ n')
 | 0, k, n, h1, h2, h3 => by omega
 | fuel + 1, k, n, h1, h2, h3 => by
  show ∃ n' : Nat, (zsq g a limit (d + 1 : Nat) n i k).ev (fun x y => zsw g fuel x.1 x.2.1 x.2.2.1 x.2.2.2.1 x.2.2.2.2.1 x.2.2.2.2.2.1) (fun r => (true, r)) (false, default) = _ ∧ _
  unfold zsq
  have hml : roomLen = 140737488351232 := rfl
  by_cases hk : k < (a.getD i default).Factors.length
  ·by_cases hn : n ≤ limit
   ·simp only [Wy.ev_i, Wy.ev_k, Wy.ev_h, Wy.ev_bn, Wy.ev_d, tT, hi, hk, zs6, hn, Atom.eta]
    obtain ⟨ha1, ha2, ha3, hgA, hgI⟩ := hg _ (zC hk)
    generalize hf : ((a.getD i default).Factors.getD k default) = f at *
    have e0 : IntKind.i64.wrap (IntKind.i64.wrap (IntKind.i64.wrap ((n : Int) + (f.Atom.Items.length : Int)) + (f.Atom.Args.length : Int)) + (f.Atom.Bound.Text.size : Int)) = ((n + f.Atom.Items.length + f.Atom.Args.length + f.Atom.Bound.Text.size : Nat) : Int) := by
     rw [zhR (z := (n : Int) + (f.Atom.Items.length : Int)) (by omega) (by omega), zhR (z := (n : Int) + (f.Atom.Items.length : Int) + (f.Atom.Args.length : Int)) (by omega) (by omega), zhR (by omega) (by omega)]; omega
    rw [e0]
    obtain ⟨n1, q1, q2, q3, q4⟩ := w14 g a limit d hl hd B hB P f.Atom i k ha1 hgA (a.length + limit + (d + 1) + ((n + f.Atom.Items.length + f.Atom.Args.length + f.Atom.Bound.Text.size : Nat) : Int).toNat + i + k + Int.toNat 0 + 1 + f.Atom.Args.length + f.Atom.Items.length) 0 (n + f.Atom.Items.length + f.Atom.Args.length + f.Atom.Bound.Text.size) (by omega) (by omega) (by omega)
    rw [show ((0 : Nat) : Int) = (0 : Int) from rfl] at q1
    rw [q1]
    simp only [cond_true, Atom.eta, Int.toNat_natCast]
    obtain ⟨n2, r1, r2, r3, r4⟩ := w18 g a limit d hl hd B hB P f.Atom i k ha2 hgI (a.length + limit + (d + 1) + n1 + i + k + Int.toNat 0 + 1 + f.Atom.Args.length + f.Atom.Items.length) 0 n1 (by omega) (by omega) (by omega)
    rw [show ((0 : Nat) : Int) = (0 : Int) from rfl] at r1
    rw [r1]
    simp only [cond_true]
    rw [zY (by omega)]
    obtain ⟨n', h4, h5, h6, h7⟩ := w9 i hi hla hg fuel (k + 1) n2 (by omega) (by omega) (by omega)
    refine ⟨n', h4, by omega, by omega, fun hn' => ?_⟩
    obtain ⟨h8, h9⟩ := h7 hn'
    obtain ⟨q5, q6⟩ := q4 (by omega)
    obtain ⟨r5, r6⟩ := r4 (by omega)
    rw [List.drop_zero] at q5 q6 r5 r6
    rw [zbF hk, zH8, hf, zNe]
    refine ⟨fun y hy => ?_, by omega⟩
    rcases List.mem_cons.1 hy with rfl | hy
    ·exact ⟨⟨by omega, by omega, by omega⟩, q5, r5⟩
    ·exact h8 y hy
   ·simp only [Wy.ev_i, Wy.ev_k, Wy.ev_h, Wy.ev_bn, Wy.ev_d, tT, hi, hk, zs6, hn]
    exact ⟨n, rfl, Nat.le_refl _, by omega, fun h => absurd h hn⟩
  ·simp only [Wy.ev_i, Wy.ev_k, Wy.ev_h, Wy.ev_bn, Wy.ev_d, tT, hi, hk]
   exact ⟨n, rfl, Nat.le_refl _, by omega, fun _ => by rw [zeQ hk, zID]; exact ⟨fun y hy => (by cases hy), Nat.le_refl _⟩⟩
theorem w5 (hla : ∀ t ∈ a, t.Factors.length ≤ roomLen) (hg : ∀ t ∈ a, ∀ f ∈ t.Factors, f.Atom.Args.length ≤ roomLen ∧ f.Atom.Items.length ≤ roomLen ∧ f.Atom.Bound.Text.size ≤ roomLen ∧ (∀ y ∈ f.Atom.Args, ∀ l : Nat, l ≤ 1000 → ∃ w : Nat, g y l d = (true, (w : Int)) ∧ w ≤ B ∧ (w ≤ l → P y ∧ zfI y ≤ w)) ∧
   ∀ y ∈ f.Atom.Items, y.Value.Text.size ≤ roomLen ∧ ∀ l : Nat, l ≤ 1000 → ∃ w : Nat, g y.Ann l d = (true, (w : Int)) ∧ w ≤ B ∧ (w ≤ l → P y.Ann ∧ zfI y.Ann ≤ w)) (hlen : a.length ≤ roomLen) :
  ∀ (fuel i n : Nat), a.length < i + fuel → i ≤ a.length → n ≤ 2305843009213693952 → ∃ n' : Nat, zsy g fuel a limit (d + 1 : Nat) n i = (true, (n' : Int)) ∧ n ≤ n' ∧ n' ≤ max n (limit + 6 * roomLen + B) ∧
   (n' ≤ limit → (n + (a.length - i) ≤ n' ∧ n + zfI (a.drop i) ≤ n') ∧ ∀ t ∈ a.drop i, t.Factors.length ≤ 1000 ∧ ∀ f ∈ t.Factors, (f.Atom.Args.length ≤ 1000 ∧ f.Atom.Items.length ≤ 1000 ∧ f.Atom.Bound.Text.size ≤ 1000) ∧ (∀ y ∈ f.Atom.Args, P y) ∧ ∀ y ∈ f.Atom.Items, y.Value.Text.size ≤ 1000 ∧ P y.Ann)
 | 0, i, n, h1, h2, h3 => by omega
 | fuel + 1, i, n, h1, h2, h3 => by
  show ∃ n' : Nat, (zsH g a limit (d + 1 : Nat) n i).ev (fun x y => zsy g fuel x.1 x.2.1 x.2.2.1 x.2.2.2.1 x.2.2.2.2.1) (fun r => (true, r)) (false, default) = _ ∧ _
  unfold zsH
  have hml : roomLen = 140737488351232 := rfl
  by_cases hi : i < a.length
  ·by_cases hn : n ≤ limit
   ·simp only [Wy.ev_i, Wy.ev_k, Wy.ev_h, Wy.ev_bn, Wy.ev_d, tT, hi, zs6, hn]
    have hla' := hla _ (zC hi)
    have e0 : IntKind.i64.wrap (IntKind.i64.wrap ((n : Int) + 1) + ((a.getD i default).Factors.length : Int)) = ((n + 1 + (a.getD i default).Factors.length : Nat) : Int) := by
     rw [zY (by omega), zhR (by omega) (by omega)]; omega
    rw [e0]
    obtain ⟨n1, q1, q2, q3, q4⟩ := w9 g a limit d hl hd B hB P i hi hla' (hg _ (zC hi)) (a.length + limit + (d + 1) + ((n + 1 + (a.getD i default).Factors.length : Nat) : Int).toNat + i + Int.toNat 0 + 1) 0 (n + 1 + (a.getD i default).Factors.length) (by omega) (by omega) (by omega)
    rw [show ((0 : Nat) : Int) = (0 : Int) from rfl] at q1
    rw [q1]
    simp only [cond_true]
    rw [zY (by omega)]
    obtain ⟨n', h4, h5, h6, h7⟩ := w5 hla hg hlen fuel (i + 1) n1 (by omega) (by omega) (by omega)
    refine ⟨n', h4, by omega, by omega, fun hn' => ?_⟩
    obtain ⟨⟨h8, h10⟩, h9⟩ := h7 hn'
    obtain ⟨q5, q6⟩ := q4 (by omega)
    rw [List.drop_zero] at q5 q6
    rw [zbF hi, zLK]
    refine ⟨⟨by omega, by omega⟩, fun y hy => ?_⟩
    rcases List.mem_cons.1 hy with rfl | hy
    ·exact ⟨by omega, q5⟩
    ·exact h9 y hy
   ·simp only [Wy.ev_i, Wy.ev_k, Wy.ev_h, Wy.ev_bn, Wy.ev_d, tT, hi, zs6, hn]
    exact ⟨n, rfl, Nat.le_refl _, by omega, fun h => absurd h hn⟩
  ·simp only [Wy.ev_i, Wy.ev_k, Wy.ev_h, Wy.ev_bn, Wy.ev_d, tT, hi]
   exact ⟨n, rfl, Nat.le_refl _, by omega, fun _ => by rw [zeQ hi, zM4]; exact ⟨⟨by omega, Nat.le_refl _⟩, fun y hy => (by cases hy)⟩⟩
end
theorem zJk : ∀ (d N : Nat), d < N → d ≤ 12 → ∀ (l : Nat), l ≤ 1000 → ∀ a, zhZ a → a.length ≤ roomLen → ∃ w : Nat, zl8 N a l d = (true, (w : Int)) ∧ w ≤ (d + 1) * 4503599627370496 ∧ (w ≤ l → zA d a ∧ zfI a ≤ w)
 | _, 0, h, _, _, _, _, _, _ => by omega
 | 0, N + 1, _, _, l, hl, a, hw, hlen => by
  rw [zy6]
  unfold znZ zo2
  refine ⟨l + 1, ?_, by omega, fun h => by omega⟩
  simp only [Wy.fin_i, Wy.fin_k]
  rw [zY (by omega)]; rfl
 | d + 1, N + 1, hN, hd, l, hl, a, hw, hlen => by
  rw [zy6]
  unfold znZ zo2
  have hml : roomLen = 140737488351232 := rfl
  have ih := fun y (h1 : zhZ y) (h2 : y.length ≤ roomLen) l hl => zJk d N (by omega) (by omega) l hl y h1 h2
  have e0 : (((d + 1 : Nat) : Int) == (0 : Int)) = false := by
   rw [beq_eq_false_iff_ne]; omega
  obtain ⟨n', h1, h2, h3, h4⟩ := w5 (zl8 N) a l d hl (by omega) ((d + 1) * 4503599627370496) (by omega) (zA d) (fun t ht => (zvD (ztU hw t ht)).2.2) (fun t ht f hf => by
   have hx := zu1 (zqJ (zpE (zvD (ztU hw t ht)).2.1 f hf)).1
   refine ⟨hx.1.2, hx.2.1.2, hx.2.2.1.2.2, fun y hy l hl => ?_, fun y hy => ?_⟩
   ·have := zlB hx.1.1 y hy
    exact ih y this.1 this.2 l hl
   ·have := zpS hx.2.1.1 y hy
    exact ⟨this.1.2.2, fun l hl => ih y.Ann this.2.1 this.2.2 l hl⟩) hlen (a.length + l + (d + 1) + Int.toNat 0 + Int.toNat 0 + 1) 0 0 (by omega) (by omega) (by omega)
  rw [show ((0 : Nat) : Int) = (0 : Int) from rfl] at h1
  refine ⟨n', ?_, by omega, fun hn => ?_⟩
  ·simp only [Wy.fin_i, Wy.fin_k, Wy.fin_bn, e0, cond_false, Int.toNat_natCast, h1, cond_true]
  ·obtain ⟨⟨h5, h12⟩, h6⟩ := h4 hn
   rw [List.drop_zero] at h12
   refine ⟨⟨by omega, fun t ht => ?_⟩, by omega⟩
   obtain ⟨h7, h8⟩ := h6 t (by simpa using ht)
   refine ⟨by omega, fun f hf => ?_⟩
   obtain ⟨h9, h10, h11⟩ := h8 f hf
   exact ⟨⟨by omega, by omega, by omega⟩, h10, fun w hw => ⟨by have := (h11 w hw).1; omega, (h11 w hw).2⟩⟩
theorem zKG (limit : Nat) (hl : limit ≤ 1000) (l : List (List Term)) (hll : l.length ≤ 1000) (hw : ∀ a ∈ l, zhZ a ∧ a.length ≤ roomLen) : ∀ (n i : Nat), l.length < i + n → i ≤ l.length → ∃ r, zz0 n limit l i = (true, r) ∧ ((r = .inl false) ∨ (r = .inr () ∧ ∀ a ∈ l.drop i, zA 12 a ∧ zfI a ≤ limit))
 | 0, i, h1, h2 => by omega
 | n + 1, i, h1, h2 => by
  show ∃ r, (zAS limit l i).ev (fun x y => zz0 n x.1 x.2.1 x.2.2.1) (fun r => (true, r)) (false, .inl default) = (true, r) ∧ _
  unfold zAS
  by_cases hi : i < l.length
  ·obtain ⟨w, q1, q2, q3⟩ := zJk 12 1000 (by omega) (by omega) limit hl _ (hw _ (zC hi)).1 (hw _ (zC hi)).2
   have q1' : zz3 (l.getD i default) (limit : Int) 12 = (true, (w : Int)) := q1
   simp only [Wy.ev_i, Wy.ev_k, Wy.ev_h, Wy.ev_bn, Wy.ev_d, tT, hi, q1', zoy]
   by_cases hg : limit < w
   ·simp only [hg, decide_true, cond_true]
    exact ⟨_, rfl, .inl rfl⟩
   ·simp only [hg, decide_false, cond_false]
    rw [zY (by omega)]
    obtain ⟨r, h3, h4⟩ := zKG limit hl l hll hw n (i + 1) (by omega) (by omega)
    refine ⟨r, h3, ?_⟩
    rcases h4 with h4 | ⟨h4, h5⟩
    ·exact .inl h4
    ·refine .inr ⟨h4, fun a ha => ?_⟩
     rw [zbF hi] at ha
     rcases List.mem_cons.1 ha with rfl | ha
     ·exact ⟨(q3 (by omega)).1, by have := (q3 (by omega)).2; omega⟩
     ·exact h5 a ha
  ·simp only [Wy.ev_i, Wy.ev_k, Wy.ev_h, Wy.ev_bn, Wy.ev_d, tT, hi]
   exact ⟨_, rfl, .inr ⟨rfl, fun a ha => by rw [zeQ hi] at ha; cases ha⟩⟩
theorem zRw (limit : Nat) (hl : limit ≤ 1000) (l : List (List Term)) (hll : l.length ≤ 1000) (hw : ∀ a ∈ l, zhZ a ∧ a.length ≤ roomLen) : ∃ b, zt4 limit l = (true, b) ∧ (b = true → ∀ a ∈ l, zA 12 a ∧ zfI a ≤ limit) := by
 unfold zt4 zCk
 obtain ⟨r, h1, h2⟩ := zKG limit hl l hll hw (limit + l.length + Int.toNat 0 + 1) 0 (by omega) (by omega)
 rw [show ((0 : Nat) : Int) = (0 : Int) from rfl] at h1
 rw [Wy.fin_bn]
 simp only [Int.toNat_natCast, h1, cond_true]
 rcases h2 with rfl | ⟨rfl, h2⟩
 ·exact ⟨false, rfl, fun h => by cases h⟩
 ·exact ⟨true, rfl, fun _ a ha => h2 a (by simpa using ha)⟩
end Go.Proofs.YtnolcogncjijpaaGreatDoor
/- What lies inside lists of terms and factors: fuel for loops. -/
namespace Go.Proofs.YtnolcogncjijpaaGreatDoor
def szFs : List Factor → Nat
 | [] => 0
 | f :: r => f.Exp.toNat + f.Atom.Args.length + f.Atom.Items.length + 1 + szFs r
def szTs : List Term → Nat
 | [] => 0
 | t :: r => szFs t.Factors + 1 + szTs r
end Go.Proofs.YtnolcogncjijpaaGreatDoor
namespace Go.Proofs.YtnolcogncjijpaaGreatDoor
open Go Go.Ab
abbrev zm7 := List Term × Int × Int × Int × Unit × Int × Unit
abbrev ttTref05Size1 := List Term × Int × Int × Int × Atom
abbrev ttTref05Size2 := List Term × Int × Int × Int
abbrev zyG := List Term × Int × Int × Int × Unit
abbrev ttTref05Size4 := List Term × Int × Int
abbrev zyi := List Term × Int × Int × Unit
def zmf (zbo : List Term → Bool × Int) (a : List Term) (n_ : Int) (i : Int) (k : Int) (j : Int) (x_ : Atom) : Wy zm7 (Atom × Unit) ttTref05Size1 := .i (decide (j < Int.ofNat x_.Args.length)) (.i (decide (0 ≤ j) && decide (j < Int.ofNat x_.Args.length)) (.bn (zbo (x_.Args.getD j.toNat default)) fun r0 => .h (a, (IntKind.i64.wrap (n_ + r0)), i, k, (), (IntKind.i64.wrap (j + 1)), ()) (x_, ())) .d) (.k (a, n_, i, k, x_))
def zAm (zbo : List Term → Bool × Int) (x : zm7) (y : Atom × Unit) : Wy zm7 (Atom × Unit) ttTref05Size1 := zmf zbo x.1 x.2.1 x.2.2.1 x.2.2.2.1 x.2.2.2.2.2.1 y.1
def zzW (zbo : List Term → Bool × Int) (n : Nat) (a : List Term) (n_ : Int) (i : Int) (k : Int) (j : Int) (x_ : Atom) : Bool × ttTref05Size1 := zN (zAm zbo) default n (a, n_, i, k, (), j, ()) (x_, ())
def zma (zbo : List Term → Bool × Int) (a : List Term) (n_ : Int) (i : Int) (k : Int) (j : Int) (x_ : Atom) : Wy zm7 (Atom × Unit) ttTref05Size2 := .i (decide (j < Int.ofNat x_.Items.length)) (.i (decide (0 ≤ j) && decide (j < Int.ofNat x_.Items.length)) (.bn (zbo (x_.Items.getD j.toNat default).Ann) fun r2 => .h (a, (IntKind.i64.wrap (IntKind.i64.wrap (n_ + 1) + r2)), i, k, (), (IntKind.i64.wrap (j + 1)), ()) (x_, ())) .d) (.k (a, n_, i, k))
def zA4 (zbo : List Term → Bool × Int) (x : zm7) (y : Atom × Unit) : Wy zm7 (Atom × Unit) ttTref05Size2 := zma zbo x.1 x.2.1 x.2.2.1 x.2.2.2.1 x.2.2.2.2.2.1 y.1
def zAK (zbo : List Term → Bool × Int) (n : Nat) (a : List Term) (n_ : Int) (i : Int) (k : Int) (j : Int) (x_ : Atom) : Bool × ttTref05Size2 := zN (zA4 zbo) default n (a, n_, i, k, (), j, ()) (x_, ())
def zng (zbo : List Term → Bool × Int) (a : List Term) (n_ : Int) (i : Int) (k : Int) : Wy zyG (Unit) ttTref05Size4 := .i (decide (0 ≤ i) && decide (i < Int.ofNat a.length)) (.i (decide (k < Int.ofNat (a.getD i.toNat default).Factors.length)) (.i (decide (0 ≤ i) && decide (i < Int.ofNat a.length)) (.i (decide (0 ≤ k) && decide (k < Int.ofNat (a.getD i.toNat default).Factors.length)) (.bn (zzW zbo (((a.length + (IntKind.i64.wrap (n_ + 1)).toNat + i.toNat + k.toNat + Int.toNat 0 + 1) + (Atom.mk ((a.getD i.toNat default).Factors.getD k.toNat default).Atom.Kind ((a.getD i.toNat default).Factors.getD k.toNat default).Atom.Row ((a.getD i.toNat default).Factors.getD k.toNat default).Atom.Args ((a.getD i.toNat default).Factors.getD k.toNat default).Atom.Func ((a.getD i.toNat default).Factors.getD k.toNat default).Atom.Items ((a.getD i.toNat default).Factors.getD k.toNat default).Atom.Op ((a.getD i.toNat default).Factors.getD k.toNat default).Atom.Bound).Args.length + (Atom.mk ((a.getD i.toNat default).Factors.getD k.toNat default).Atom.Kind ((a.getD i.toNat default).Factors.getD k.toNat default).Atom.Row ((a.getD i.toNat default).Factors.getD k.toNat default).Atom.Args ((a.getD i.toNat default).Factors.getD k.toNat default).Atom.Func ((a.getD i.toNat default).Factors.getD k.toNat default).Atom.Items ((a.getD i.toNat default).Factors.getD k.toNat default).Atom.Op ((a.getD i.toNat default).Factors.getD k.toNat default).Atom.Bound).Items.length) + szTs a) a (IntKind.i64.wrap (n_ + 1)) i k 0 (Atom.mk ((a.getD i.toNat default).Factors.getD k.toNat default).Atom.Kind ((a.getD i.toNat default).Factors.getD k.toNat default).Atom.Row ((a.getD i.toNat default).Factors.getD k.toNat default).Atom.Args ((a.getD i.toNat default).Factors.getD k.toNat default).Atom.Func ((a.getD i.toNat default).Factors.getD k.toNat default).Atom.Items ((a.getD i.toNat default).Factors.getD k.toNat default).Atom.Op ((a.getD i.toNat default).Factors.getD k.toNat default).Atom.Bound)) fun r5 => .bn (zAK zbo (((r5.1.length + r5.2.1.toNat + r5.2.2.1.toNat + r5.2.2.2.1.toNat + Int.toNat 0 + 1) + (Atom.mk r5.2.2.2.2.Kind r5.2.2.2.2.Row r5.2.2.2.2.Args r5.2.2.2.2.Func r5.2.2.2.2.Items r5.2.2.2.2.Op r5.2.2.2.2.Bound).Args.length + (Atom.mk r5.2.2.2.2.Kind r5.2.2.2.2.Row r5.2.2.2.2.Args r5.2.2.2.2.Func r5.2.2.2.2.Items r5.2.2.2.2.Op r5.2.2.2.2.Bound).Items.length) + szTs r5.1) r5.1 r5.2.1 r5.2.2.1 r5.2.2.2.1 0 (Atom.mk r5.2.2.2.2.Kind r5.2.2.2.2.Row r5.2.2.2.2.Args r5.2.2.2.2.Func r5.2.2.2.2.Items r5.2.2.2.2.Op r5.2.2.2.2.Bound)) fun r4 => .h ((r4.1), (r4.2.1), (r4.2.2.1), (IntKind.i64.wrap (r4.2.2.2 + 1)), ()) ()) .d) .d) (.k (a, n_, i))) .d
def zBH (zbo : List Term → Bool × Int) (x : zyG) (y : Unit) : Wy zyG (Unit) ttTref05Size4 := zng zbo x.1 x.2.1 x.2.2.1 x.2.2.2.1
def zBZ (zbo : List Term → Bool × Int) (n : Nat) (a : List Term) (n_ : Int) (i : Int) (k : Int) : Bool × ttTref05Size4 := zN (zBH zbo) default n (a, n_, i, k, ()) ()
def znk (zbo : List Term → Bool × Int) (a : List Term) (n_ : Int) (i : Int) : Wy zyi (Unit) (Int) := .i (decide (i < Int.ofNat a.length)) (.bn (zBZ zbo ((a.length + (IntKind.i64.wrap (n_ + 1)).toNat + i.toNat + Int.toNat 0 + 1) + szTs a) a (IntKind.i64.wrap (n_ + 1)) i 0) fun r8 => .h ((r8.1), (r8.2.1), (IntKind.i64.wrap (r8.2.2 + 1)), ()) ()) (.k n_)
def zBA (zbo : List Term → Bool × Int) (x : zyi) (y : Unit) : Wy zyi (Unit) (Int) := znk zbo x.1 x.2.1 x.2.2.1
def zBF (zbo : List Term → Bool × Int) (n : Nat) (a : List Term) (n_ : Int) (i : Int) : Bool × Int := zN (zBA zbo) default n (a, n_, i, ()) ()
def zC6 (zbo : List Term → Bool × Int) (a : List Term) : Wy0 (Int) := .bn (zBF zbo ((a.length + Int.toNat 0 + Int.toNat 0 + 1) + szTs a) a 0 0) fun r10 => .k r10
def zAX (zbo : List Term → Bool × Int) (a : List Term) : Bool × Int := (zC6 zbo a).fin default
def zJE : Nat → (List Term → Bool × Int)
 | 0 => fun _ => (false, default)
 | n + 1 => zAX (zJE n)
def zrq (n : Nat) : List Term → Bool × Int := zJE n
theorem zIe (n : Nat) : zrq (n + 1) = zAX (zrq n) := rfl
def zHX : List Term → Bool × Int := zrq 1000
abbrev zj1 := List Term × Int × Int × Int × Unit × Int × Int × Unit
abbrev ttTref05Nesting1 := List Term × Int × Int × Int × Int × Atom
abbrev ttTref05Nesting2 := List Term × Int × Int × Int × Int
abbrev zty := List Term × Int × Int × Int × Unit
abbrev ttTref05Nesting4 := List Term × Int × Int
abbrev ztF := List Term × Int × Int × Unit
def zjO (zX : List Term → Bool × Int) (a : List Term) (most : Int) (i : Int) (k : Int) (n_ : Int) (j : Int) (x_ : Atom) : Wy zj1 (Atom × Unit) ttTref05Nesting1 := .i (decide (j < Int.ofNat x_.Args.length)) (.i (decide (0 ≤ j) && decide (j < Int.ofNat x_.Args.length)) (.bn (zX (x_.Args.getD j.toNat default)) fun r0 => .h (a, most, i, k, (), (if IntKind.i64.wrap (1 + r0) > n_ then IntKind.i64.wrap (1 + r0) else n_), (IntKind.i64.wrap (j + 1)), ()) (x_, ())) .d) (.k (a, most, i, k, n_, x_))
def zvZ (zX : List Term → Bool × Int) (x : zj1) (y : Atom × Unit) : Wy zj1 (Atom × Unit) ttTref05Nesting1 := zjO zX x.1 x.2.1 x.2.2.1 x.2.2.2.1 x.2.2.2.2.2.1 x.2.2.2.2.2.2.1 y.1
def zpZ (zX : List Term → Bool × Int) (n : Nat) (a : List Term) (most : Int) (i : Int) (k : Int) (n_ : Int) (j : Int) (x_ : Atom) : Bool × ttTref05Nesting1 := zN (zvZ zX) default n (a, most, i, k, (), n_, j, ()) (x_, ())
def zjS (zX : List Term → Bool × Int) (a : List Term) (most : Int) (i : Int) (k : Int) (n_ : Int) (j : Int) (x_ : Atom) : Wy zj1 (Atom × Unit) ttTref05Nesting2 := .i (decide (j < Int.ofNat x_.Items.length)) (.i (decide (0 ≤ j) && decide (j < Int.ofNat x_.Items.length)) (.bn (zX (x_.Items.getD j.toNat default).Ann) fun r2 => .h (a, most, i, k, (), (if IntKind.i64.wrap (1 + r2) > n_ then IntKind.i64.wrap (1 + r2) else n_), (IntKind.i64.wrap (j + 1)), ()) (x_, ())) .d) (.k (a, most, i, k, n_))
def zv8 (zX : List Term → Bool × Int) (x : zj1) (y : Atom × Unit) : Wy zj1 (Atom × Unit) ttTref05Nesting2 := zjS zX x.1 x.2.1 x.2.2.1 x.2.2.2.1 x.2.2.2.2.2.1 x.2.2.2.2.2.2.1 y.1
def zwe (zX : List Term → Bool × Int) (n : Nat) (a : List Term) (most : Int) (i : Int) (k : Int) (n_ : Int) (j : Int) (x_ : Atom) : Bool × ttTref05Nesting2 := zN (zv8 zX) default n (a, most, i, k, (), n_, j, ()) (x_, ())
def zkA (zX : List Term → Bool × Int) (a : List Term) (most : Int) (i : Int) (k : Int) : Wy zty (Unit) ttTref05Nesting4 := .i (decide (0 ≤ i) && decide (i < Int.ofNat a.length)) (.i (decide (k < Int.ofNat (a.getD i.toNat default).Factors.length)) (.i (decide (0 ≤ i) && decide (i < Int.ofNat a.length)) (.i (decide (0 ≤ k) && decide (k < Int.ofNat (a.getD i.toNat default).Factors.length)) (.i (((a.getD i.toNat default).Factors.getD k.toNat default).Atom.Kind == 0) (.h (a, most, i, (IntKind.i64.wrap (k + 1)), ()) ()) (.bn (zpZ zX (((a.length + most.toNat + i.toNat + k.toNat + Int.toNat 1 + Int.toNat 0 + 1) + (Atom.mk ((a.getD i.toNat default).Factors.getD k.toNat default).Atom.Kind ((a.getD i.toNat default).Factors.getD k.toNat default).Atom.Row ((a.getD i.toNat default).Factors.getD k.toNat default).Atom.Args ((a.getD i.toNat default).Factors.getD k.toNat default).Atom.Func ((a.getD i.toNat default).Factors.getD k.toNat default).Atom.Items ((a.getD i.toNat default).Factors.getD k.toNat default).Atom.Op ((a.getD i.toNat default).Factors.getD k.toNat default).Atom.Bound).Args.length + (Atom.mk ((a.getD i.toNat default).Factors.getD k.toNat default).Atom.Kind ((a.getD i.toNat default).Factors.getD k.toNat default).Atom.Row ((a.getD i.toNat default).Factors.getD k.toNat default).Atom.Args ((a.getD i.toNat default).Factors.getD k.toNat default).Atom.Func ((a.getD i.toNat default).Factors.getD k.toNat default).Atom.Items ((a.getD i.toNat default).Factors.getD k.toNat default).Atom.Op ((a.getD i.toNat default).Factors.getD k.toNat default).Atom.Bound).Items.length) + szTs a) a most i k 1 0 (Atom.mk ((a.getD i.toNat default).Factors.getD k.toNat default).Atom.Kind ((a.getD i.toNat default).Factors.getD k.toNat default).Atom.Row ((a.getD i.toNat default).Factors.getD k.toNat default).Atom.Args ((a.getD i.toNat default).Factors.getD k.toNat default).Atom.Func ((a.getD i.toNat default).Factors.getD k.toNat default).Atom.Items ((a.getD i.toNat default).Factors.getD k.toNat default).Atom.Op ((a.getD i.toNat default).Factors.getD k.toNat default).Atom.Bound)) fun r5 => .bn (zwe zX (((r5.1.length + r5.2.1.toNat + r5.2.2.1.toNat + r5.2.2.2.1.toNat + r5.2.2.2.2.1.toNat + Int.toNat 0 + 1) + (Atom.mk r5.2.2.2.2.2.Kind r5.2.2.2.2.2.Row r5.2.2.2.2.2.Args r5.2.2.2.2.2.Func r5.2.2.2.2.2.Items r5.2.2.2.2.2.Op r5.2.2.2.2.2.Bound).Args.length + (Atom.mk r5.2.2.2.2.2.Kind r5.2.2.2.2.2.Row r5.2.2.2.2.2.Args r5.2.2.2.2.2.Func r5.2.2.2.2.2.Items r5.2.2.2.2.2.Op r5.2.2.2.2.2.Bound).Items.length) + szTs r5.1) r5.1 r5.2.1 r5.2.2.1 r5.2.2.2.1 r5.2.2.2.2.1 0 (Atom.mk r5.2.2.2.2.2.Kind r5.2.2.2.2.2.Row r5.2.2.2.2.2.Args r5.2.2.2.2.2.Func r5.2.2.2.2.2.Items r5.2.2.2.2.2.Op r5.2.2.2.2.2.Bound)) fun r4 => .h ((r4.1), (if r4.2.2.2.2 > r4.2.1 then r4.2.2.2.2 else r4.2.1), (r4.2.2.1), (IntKind.i64.wrap (r4.2.2.2.1 + 1)), ()) ())) .d) .d) (.k (a, most, i))) .d
def zxk (zX : List Term → Bool × Int) (x : zty) (y : Unit) : Wy zty (Unit) ttTref05Nesting4 := zkA zX x.1 x.2.1 x.2.2.1 x.2.2.2.1
def zya (zX : List Term → Bool × Int) (n : Nat) (a : List Term) (most : Int) (i : Int) (k : Int) : Bool × ttTref05Nesting4 := zN (zxk zX) default n (a, most, i, k, ()) ()
def zkE (zX : List Term → Bool × Int) (a : List Term) (most : Int) (i : Int) : Wy ztF (Unit) (Int) := .i (decide (i < Int.ofNat a.length)) (.bn (zya zX ((a.length + most.toNat + i.toNat + Int.toNat 0 + 1) + szTs a) a most i 0) fun r8 => .h ((r8.1), (r8.2.1), (IntKind.i64.wrap (r8.2.2 + 1)), ()) ()) (.k most)
def zxj (zX : List Term → Bool × Int) (x : ztF) (y : Unit) : Wy ztF (Unit) (Int) := zkE zX x.1 x.2.1 x.2.2.1
def zxo (zX : List Term → Bool × Int) (n : Nat) (a : List Term) (most : Int) (i : Int) : Bool × Int := zN (zxj zX) default n (a, most, i, ()) ()
def zzb (zX : List Term → Bool × Int) (a : List Term) : Wy0 (Int) := .bn (zxo zX ((a.length + Int.toNat 0 + Int.toNat 0 + 1) + szTs a) a 0 0) fun r10 => .k r10
def zuJ (zX : List Term → Bool × Int) (a : List Term) : Bool × Int := (zzb zX a).fin default
def zE4 : Nat → (List Term → Bool × Int)
 | 0 => fun _ => (false, default)
 | n + 1 => zuJ (zE4 n)
def zkX (n : Nat) : List Term → Bool × Int := zE4 n
theorem zE0 (n : Nat) : zkX (n + 1) = zuJ (zkX n) := rfl
def zEa : List Term → Bool × Int := zkX 1000
mutual
def zeS : Atom → Nat
 | ⟨_, _, a, _, i, _, _⟩ => zfh a + zdt i
def zbA : List Factor → Nat
 | [] => 0
 | ⟨x, _⟩ :: r => zeS x + zbA r
def zK : List Term → Nat
 | [] => 0
 | ⟨_, fs⟩ :: r => 1 + fs.length + zbA fs + zK r
def zfh : List (List Term) → Nat
 | [] => 0
 | a :: r => zK a + zfh r
def zdt : List Weighted → Nat
 | [] => 0
 | ⟨_, a⟩ :: r => 1 + zK a + zdt r
end
theorem ziQ (x : Atom) : zeS x = zfh x.Args + zdt x.Items := by cases x; rw [zeS]
theorem zfQ (f : Factor) (r : List Factor) : zbA (f :: r) = zeS f.Atom + zbA r := by cases f; rw [zbA]
theorem ziJ (t : Term) (r : List Term) : zK (t :: r) = 1 + t.Factors.length + zbA t.Factors + zK r := by cases t; rw [zK]
theorem zex (a : List Term) (r : List (List Term)) : zfh (a :: r) = zK a + zfh r := by rw [zfh]
theorem zh0 (w : Weighted) (r : List Weighted) : zdt (w :: r) = 1 + zK w.Ann + zdt r := by cases w; rw [zdt]
theorem ziI : zfh [] = 0 := by rw [zfh]
theorem zhU : zdt [] = 0 := by rw [zdt]
theorem zol : zbA [] = 0 := by rw [zbA]
theorem zuW : zK [] = 0 := by rw [zK]
theorem zHQ (l : List (List Term)) : ∀ n : Nat, l.foldl (fun s t => s + zK t) n = n + zfh l := by
 induction l with
 | nil => intro n; rw [ziI]; rfl
 | cons a r ih => intro n; rw [List.foldl_cons, ih, zex]; omega
theorem zGj (l : List Weighted) : ∀ n : Nat, l.foldl (fun s t => s + 1 + zK t.Ann) n = n + zdt l := by
 induction l with
 | nil => intro n; rw [zhU]; rfl
 | cons a r ih => intro n; rw [List.foldl_cons, ih, zh0]; omega
theorem zJU (l : List Factor) : ∀ n : Nat, l.foldl (fun s t => s + zeS t.Atom) n = n + zbA l := by
 induction l with
 | nil => intro n; rw [zol]; rfl
 | cons a r ih => intro n; rw [List.foldl_cons, ih, zfQ]; omega
theorem zJi (l : List Term) : ∀ n : Nat, l.foldl (fun s t => s + 1 + t.Factors.length + zbA t.Factors) n = n + zK l := by
 induction l with
 | nil => intro n; rw [zuW]; rfl
 | cons a r ih => intro n; rw [List.foldl_cons, ih, ziJ]; omega
theorem zla {n m : Nat} (h : n + m ≤ 4611686018427387904) : IntKind.i64.wrap ((n : Int) + (m : Int)) = ((n + m : Nat) : Int) := by
 rw [zFY (by omega) (by omega)]; omega
theorem zfl {i : Nat} (h : i < 4611686018427387904) : IntKind.i64.wrap ((i : Int) + 1) = ((i + 1 : Nat) : Int) := zY h
section
variable (g : List Term → Bool × Int)
theorem zQM (l : List (List Term)) (hl : l.length ≤ 1000000) (hg : ∀ y ∈ l, g y = (true, (zK y : Int))) (t12 : List Term) (t13 t14 : Int) (t25 : List Factor) (t26 t27 : Int) (f : Factor) (fuel n : Nat) (hf : l.length < fuel) (hn : n + zfh l ≤ 4611686018427387904) :
  zup g fuel n t12 t13 t14 t25 t26 t27 l l.length 0 f = (true, (((n + zfh l : Nat) : Int), t12, t13, t14, t25, t26, t27, f)) := by
 have h := zcv (W := zkY g) (z := default) (l := l) (fun i (n : Nat) => ((n : Int), (), t12, t13, t14, t25, t26, t27, l, (l.length : Int), (i : Int), ())) (fun _ _ => (f, ())) (fun y n => .inl (n + zK y)) (fun n => ((n : Int), t12, t13, t14, t25, t26, t27, f)) (fun i n => n + zfh (l.drop i) ≤ 4611686018427387904)
  (fun i n hi hI => .inl ⟨_, rfl, by rw [zbF hi, zex] at hI; omega, fun H K D => by
   rw [zbF hi, zex] at hI
   show (ziq g n t12 t13 t14 t25 t26 t27 l l.length i f).ev H K D = _
   unfold ziq
   simp only [Wy.ev_i, Wy.ev_k, Wy.ev_h, Wy.ev_bn, Wy.ev_d, tT, hi, hg _ (zC hi)]
   rw [zla (by omega), zfl (by omega)]⟩)
  (fun n hI H K D => by
   show (ziq g n t12 t13 t14 t25 t26 t27 l l.length l.length f).ev H K D = _
   unfold ziq
   simp only [Wy.ev_i, Wy.ev_k, tT, Nat.lt_irrefl]) fuel 0 n (by omega) (Nat.zero_le _) (by simpa using hn)
 rw [List.drop_zero, zcs, zHQ] at h
 exact h
theorem zQr (l : List Weighted) (hl : l.length ≤ 1000000) (hg : ∀ y ∈ l, g y.Ann = (true, (zK y.Ann : Int))) (t12 : List Term) (t13 t14 : Int) (t25 : List Factor) (t26 t27 : Int) (fuel n : Nat) (hf : l.length < fuel) (hn : n + zdt l ≤ 4611686018427387904) :
  zuo g fuel n t12 t13 t14 t25 t26 t27 l l.length 0 = (true, (((n + zdt l : Nat) : Int), t12, t13, t14, t25, t26, t27)) := by
 have h := zcv (W := zkU g) (z := default) (l := l) (fun i (n : Nat) => ((n : Int), t12, t13, t14, t25, t26, t27, l, (l.length : Int), (i : Int), ())) (fun _ _ => ()) (fun y n => .inl (n + 1 + zK y.Ann)) (fun n => ((n : Int), t12, t13, t14, t25, t26, t27)) (fun i n => n + zdt (l.drop i) ≤ 4611686018427387904)
  (fun i n hi hI => .inl ⟨_, rfl, by rw [zbF hi, zh0] at hI; omega, fun H K D => by
   rw [zbF hi, zh0] at hI
   show (zik g n t12 t13 t14 t25 t26 t27 l l.length i).ev H K D = _
   unfold zik
   simp only [Wy.ev_i, Wy.ev_k, Wy.ev_h, Wy.ev_bn, Wy.ev_d, tT, hi, hg _ (zC hi)]
   rw [zfl (by omega), show (1 : Int) = ((1 : Nat) : Int) from rfl, zla (by omega), zla (by omega), ← Nat.add_assoc]⟩)
  (fun n hI H K D => by
   show (zik g n t12 t13 t14 t25 t26 t27 l l.length l.length).ev H K D = _
   unfold zik
   simp only [Wy.ev_i, Wy.ev_k, tT, Nat.lt_irrefl]) fuel 0 n (by omega) (Nat.zero_le _) (by simpa using hn)
 rw [List.drop_zero, zcs, zGj] at h
 exact h
theorem zRp (l : List Factor) (hl : l.length ≤ 1000000) (hg : ∀ f ∈ l, (f.Atom.Args.length ≤ 1000000 ∧ f.Atom.Items.length ≤ 1000000) ∧ (∀ y ∈ f.Atom.Args, g y = (true, (zK y : Int))) ∧ ∀ y ∈ f.Atom.Items, g y.Ann = (true, (zK y.Ann : Int))) (t12 : List Term) (t13 t14 : Int) (fuel n : Nat) (hf : l.length < fuel) (hn : n + zbA l ≤ 4611686018427387904) :
  zvB g fuel n t12 t13 t14 l l.length 0 = (true, (((n + zbA l : Nat) : Int), t12, t13, t14)) := by
 have h := zcv (W := zlI g) (z := default) (l := l) (fun i (n : Nat) => ((n : Int), t12, t13, t14, l, (l.length : Int), (i : Int), ())) (fun _ _ => ()) (fun y n => .inl (n + zeS y.Atom)) (fun n => ((n : Int), t12, t13, t14)) (fun i n => n + zbA (l.drop i) ≤ 4611686018427387904)
  (fun i n hi hI => .inl ⟨_, rfl, by rw [zbF hi, zfQ] at hI; omega, fun H K D => by
   rw [zbF hi, zfQ, ziQ] at hI
   obtain ⟨⟨h1, h2⟩, h3, h4⟩ := hg _ (zC hi)
   show (zi4 g n t12 t13 t14 l l.length i).ev H K D = _
   unfold zi4
   simp only [Wy.ev_i, Wy.ev_k, Wy.ev_h, Wy.ev_bn, Wy.ev_d, tT, hi, Atom.eta]
   rw [zQM g _ h1 h3 _ _ _ _ _ _ _ _ _ (by omega) (by omega)]
   simp only [cond_true, Int.toNat_natCast]
   rw [zQr g _ h2 h4 _ _ _ _ _ _ _ _ (by omega) (by omega)]
   simp only [cond_true]
   rw [zfl (by omega), ziQ, Nat.add_assoc]⟩)
  (fun n hI H K D => by
   show (zi4 g n t12 t13 t14 l l.length l.length).ev H K D = _
   unfold zi4
   simp only [Wy.ev_i, Wy.ev_k, tT, Nat.lt_irrefl]) fuel 0 n (by omega) (Nat.zero_le _) (by simpa using hn)
 rw [List.drop_zero, zcs, zJU] at h
 exact h
theorem zQ5 (l : List Term) (hl : l.length ≤ 1000000) (hg : ∀ t ∈ l, t.Factors.length ≤ 1000000 ∧ ∀ f ∈ t.Factors, (f.Atom.Args.length ≤ 1000000 ∧ f.Atom.Items.length ≤ 1000000) ∧ (∀ y ∈ f.Atom.Args, g y = (true, (zK y : Int))) ∧ ∀ y ∈ f.Atom.Items, g y.Ann = (true, (zK y.Ann : Int))) (fuel n : Nat) (hf : l.length < fuel) (hn : n + zK l ≤ 4611686018427387904) :
  zvy g fuel n l l.length 0 = (true, ((n + zK l : Nat) : Int)) := by
 have h := zcv (W := zlD g) (z := default) (l := l) (fun i (n : Nat) => ((n : Int), l, (l.length : Int), (i : Int), ())) (fun _ _ => ()) (fun y n => .inl (n + 1 + y.Factors.length + zbA y.Factors)) (fun n => (n : Int)) (fun i n => n + zK (l.drop i) ≤ 4611686018427387904)
  (fun i n hi hI => .inl ⟨_, rfl, by rw [zbF hi, ziJ] at hI; omega, fun H K D => by
   rw [zbF hi, ziJ] at hI
   obtain ⟨h1, h3⟩ := hg _ (zC hi)
   show (zja g n l l.length i).ev H K D = _
   unfold zja
   simp only [Wy.ev_i, Wy.ev_k, Wy.ev_h, Wy.ev_bn, Wy.ev_d, tT, hi, Atom.eta]
   rw [show (1 : Int) = ((1 : Nat) : Int) from rfl, zla (n := 1) (by omega), zla (by omega)]
   rw [zRp g _ h1 h3 _ _ _ _ _ (by omega) (by omega)]
   simp only [cond_true]
   rw [show ((1 : Nat) : Int) = (1 : Int) from rfl, zfl (by omega), Nat.add_assoc n 1]⟩)
  (fun n hI H K D => by
   show (zja g n l l.length l.length).ev H K D = _
   unfold zja
   simp only [Wy.ev_i, Wy.ev_k, tT, Nat.lt_irrefl]) fuel 0 n (by omega) (Nat.zero_le _) (by simpa using hn)
 rw [List.drop_zero, zcs, zJi] at h
 exact h
theorem zOQ (x : Atom) (hl : x.Args.length ≤ 1000000) (hg : ∀ y ∈ x.Args, g y = (true, (zK y : Int))) (a : List Term) (i k : Int) (fuel n : Nat) (hf : x.Args.length < fuel) (hn : n + zfh x.Args ≤ 4611686018427387904) :
  zzW g fuel a n i k 0 x = (true, (a, ((n + zfh x.Args : Nat) : Int), i, k, x)) := by
 have h := zcv (W := zAm g) (z := default) (l := x.Args) (fun j (n : Nat) => (a, (n : Int), i, k, (), (j : Int), ())) (fun _ _ => (x, ())) (fun y n => .inl (n + zK y)) (fun n => (a, (n : Int), i, k, x)) (fun i n => n + zfh (x.Args.drop i) ≤ 4611686018427387904)
  (fun j n hi hI => .inl ⟨_, rfl, by rw [zbF hi, zex] at hI; omega, fun H K D => by
   rw [zbF hi, zex] at hI
   show (zmf g a n i k j x).ev H K D = _
   unfold zmf
   simp only [Wy.ev_i, Wy.ev_k, Wy.ev_h, Wy.ev_bn, Wy.ev_d, tT, hi, hg _ (zC hi)]
   rw [zla (by omega), zfl (by omega)]⟩)
  (fun n hI H K D => by
   show (zmf g a n i k x.Args.length x).ev H K D = _
   unfold zmf
   simp only [Wy.ev_i, Wy.ev_k, tT, Nat.lt_irrefl]) fuel 0 n (by omega) (Nat.zero_le _) (by simpa using hn)
 rw [List.drop_zero, zcs, zHQ] at h
 exact h
theorem zPq (x : Atom) (hl : x.Items.length ≤ 1000000) (hg : ∀ y ∈ x.Items, g y.Ann = (true, (zK y.Ann : Int))) (a : List Term) (i k : Int) (fuel n : Nat) (hf : x.Items.length < fuel) (hn : n + zdt x.Items ≤ 4611686018427387904) :
  zAK g fuel a n i k 0 x = (true, (a, ((n + zdt x.Items : Nat) : Int), i, k)) := by
 have h := zcv (W := zA4 g) (z := default) (l := x.Items) (fun j (n : Nat) => (a, (n : Int), i, k, (), (j : Int), ())) (fun _ _ => (x, ())) (fun y n => .inl (n + 1 + zK y.Ann)) (fun n => (a, (n : Int), i, k)) (fun i n => n + zdt (x.Items.drop i) ≤ 4611686018427387904)
  (fun j n hi hI => .inl ⟨_, rfl, by rw [zbF hi, zh0] at hI; omega, fun H K D => by
   rw [zbF hi, zh0] at hI
   show (zma g a n i k j x).ev H K D = _
   unfold zma
   simp only [Wy.ev_i, Wy.ev_k, Wy.ev_h, Wy.ev_bn, Wy.ev_d, tT, hi, hg _ (zC hi)]
   rw [zfl (i := j) (by omega), zfl (i := n) (by omega), zla (by omega)]⟩)
  (fun n hI H K D => by
   show (zma g a n i k x.Items.length x).ev H K D = _
   unfold zma
   simp only [Wy.ev_i, Wy.ev_k, tT, Nat.lt_irrefl]) fuel 0 n (by omega) (Nat.zero_le _) (by simpa using hn)
 rw [List.drop_zero, zcs, zGj] at h
 exact h
theorem zAz : ∀ (a : List Term) (i : Nat), i < a.length → (a.getD i default).Factors.length ≤ szTs a
 | [], i, h => by simp at h
 | t :: r, 0, h => by
  have : ∀ l : List Factor, l.length ≤ szFs l := fun l => by
   induction l with
   | nil => exact Nat.le_refl _
   | cons f r ih => simp only [szFs, List.length_cons]; omega
  have := this t.Factors
  simp only [szTs, List.getD_cons_zero]; omega
 | t :: r, i + 1, h => by
  have := zAz r i (by simpa using h)
  simp only [szTs, List.getD_cons_succ]; omega
theorem foldl_factors' (l : List Factor) : ∀ n : Nat, l.foldl (fun s t => s + 1 + zeS t.Atom) n = n + l.length + zbA l := by
 induction l with
 | nil => intro n; rw [zol]; rfl
 | cons a r ih => intro n; rw [List.foldl_cons, ih, zfQ, List.length_cons]; omega
theorem zQm (a : List Term) (i : Nat) (hi : i < a.length) (hla : a.length ≤ 1000000) (l : List Factor) (el : (a.getD i default).Factors = l) (hl : l.length ≤ 1000000) (hg : ∀ f ∈ l, (f.Atom.Args.length ≤ 1000000 ∧ f.Atom.Items.length ≤ 1000000) ∧ (∀ y ∈ f.Atom.Args, g y = (true, (zK y : Int))) ∧ ∀ y ∈ f.Atom.Items, g y.Ann = (true, (zK y.Ann : Int))) (fuel n : Nat) (hf : l.length < fuel) (hn : n + l.length + zbA l ≤ 4611686018427387904) :
  zBZ g fuel a n i 0 = (true, (a, ((n + l.length + zbA l : Nat) : Int), (i : Int))) := by
 have h := zcv (W := zBH g) (z := default) (l := l) (fun k (n : Nat) => (a, (n : Int), (i : Int), (k : Int), ())) (fun _ _ => ()) (fun y n => .inl (n + 1 + zeS y.Atom)) (fun n => (a, (n : Int), (i : Int))) (fun k n => n + (l.drop k).length + zbA (l.drop k) ≤ 4611686018427387904)
  (fun k n hk hI => .inl ⟨_, rfl, by rw [zbF hk, zfQ, List.length_cons] at hI; omega, fun H K D => by
   rw [zbF hk, zfQ, ziQ, List.length_cons] at hI
   obtain ⟨⟨h1, h2⟩, h3, h4⟩ := hg _ (zC hk)
   show (zng g a n i k).ev H K D = _
   unfold zng
   simp only [Wy.ev_i, Wy.ev_k, Wy.ev_h, Wy.ev_bn, Wy.ev_d, tT, hi, el, hk, Atom.eta]
   rw [zfl (i := n) (by omega)]
   rw [zOQ g _ h1 h3 _ _ _ _ _ (by omega) (by omega)]
   simp only [cond_true, Int.toNat_natCast, Atom.eta]
   rw [zPq g _ h2 h4 _ _ _ _ _ (by omega) (by omega)]
   simp only [cond_true]
   rw [zfl (by omega), ziQ, Nat.add_assoc (n + 1)]⟩)
  (fun n hI H K D => by
   show (zng g a n i l.length).ev H K D = _
   unfold zng
   simp only [Wy.ev_i, Wy.ev_k, tT, hi, el, Nat.lt_irrefl]) fuel 0 n (by omega) (Nat.zero_le _) (by simpa using hn)
 rw [List.drop_zero, zcs, foldl_factors'] at h
 exact h
theorem zP4 (l : List Term) (hl : l.length ≤ 1000000) (hg : ∀ t ∈ l, t.Factors.length ≤ 1000000 ∧ ∀ f ∈ t.Factors, (f.Atom.Args.length ≤ 1000000 ∧ f.Atom.Items.length ≤ 1000000) ∧ (∀ y ∈ f.Atom.Args, g y = (true, (zK y : Int))) ∧ ∀ y ∈ f.Atom.Items, g y.Ann = (true, (zK y.Ann : Int))) (fuel n : Nat) (hf : l.length < fuel) (hn : n + zK l ≤ 4611686018427387904) :
  zBF g fuel l n 0 = (true, ((n + zK l : Nat) : Int)) := by
 have h := zcv (W := zBA g) (z := default) (l := l) (fun i (n : Nat) => (l, (n : Int), (i : Int), ())) (fun _ _ => ()) (fun y n => .inl (n + 1 + y.Factors.length + zbA y.Factors)) (fun n => (n : Int)) (fun i n => n + zK (l.drop i) ≤ 4611686018427387904)
  (fun i n hi hI => .inl ⟨_, rfl, by rw [zbF hi, ziJ] at hI; omega, fun H K D => by
   rw [zbF hi, ziJ] at hI
   obtain ⟨h1, h3⟩ := hg _ (zC hi)
   have hz := zAz l i hi
   show (znk g l n i).ev H K D = _
   unfold znk
   simp only [Wy.ev_i, Wy.ev_k, Wy.ev_h, Wy.ev_bn, Wy.ev_d, tT, hi, Atom.eta]
   rw [zfl (i := n) (by omega)]
   rw [zQm g l i hi hl _ rfl h1 h3 _ _ (by omega) (by omega)]
   simp only [cond_true]
   rw [zfl (by omega)]⟩)
  (fun n hI H K D => by
   show (znk g l n l.length).ev H K D = _
   unfold znk
   simp only [Wy.ev_i, Wy.ev_k, tT, Nat.lt_irrefl]) fuel 0 n (by omega) (Nat.zero_le _) (by simpa using hn)
 rw [List.drop_zero, zcs, zJi] at h
 exact h
end
theorem zLD {l : List (List Term)} {y : List Term} (h : y ∈ l) : zK y ≤ zfh l := by
 induction l with
 | nil => cases h
 | cons a r ih =>
  rw [zex]
  rcases List.mem_cons.1 h with rfl | h
  ·omega
  ·have := ih h; omega
theorem zKA {l : List Weighted} {y : Weighted} (h : y ∈ l) : zK y.Ann ≤ zdt l := by
 induction l with
 | nil => cases h
 | cons a r ih =>
  rw [zh0]
  rcases List.mem_cons.1 h with rfl | h
  ·omega
  ·have := ih h; omega
theorem zIK {l : List Factor} {y : Factor} (h : y ∈ l) : zeS y.Atom ≤ zbA l := by
 induction l with
 | nil => cases h
 | cons a r ih =>
  rw [zfQ]
  rcases List.mem_cons.1 h with rfl | h
  ·omega
  ·have := ih h; omega
theorem zMG {l : List Term} {y : Term} (h : y ∈ l) : zbA y.Factors ≤ zK l := by
 induction l with
 | nil => cases h
 | cons a r ih =>
  rw [ziJ]
  rcases List.mem_cons.1 h with rfl | h
  ·omega
  ·have := ih h; omega
theorem zIz {a : List Term} {t : Term} {f : Factor} (ht : t ∈ a) (hf : f ∈ t.Factors) : zfh f.Atom.Args + zdt f.Atom.Items ≤ zK a := by
 have h1 := zMG ht; have h2 := zIK hf; rw [ziQ] at h2; omega
theorem zCe {d : Nat} {a : List Term} (h : zA (d + 1) a) {t : Term} (ht : t ∈ a) : t.Factors.length ≤ 1000000 ∧ ∀ f ∈ t.Factors, (f.Atom.Args.length ≤ 1000000 ∧ f.Atom.Items.length ≤ 1000000) ∧ (∀ y ∈ f.Atom.Args, zA d y) ∧ ∀ y ∈ f.Atom.Items, zA d y.Ann :=
 ⟨(h.2 t ht).1, fun f hf => have q := (h.2 t ht).2 f hf; ⟨⟨q.1.1, q.1.2.1⟩, q.2.1, fun y hy => (q.2.2 y hy).2⟩⟩
theorem zGW : ∀ (n d : Nat) (a : List Term), zA d a → d ≤ n → zK a ≤ 4611686018427387904 → zjl n a = (true, (zK a : Int)) ∧ zrq n a = (true, (zK a : Int))
 | n, 0, a, h, hd, hs => h.elim
 | 0, d + 1, a, h, hd, hs => by omega
 | n + 1, d + 1, a, h, hd, hs => by
  have hg := fun y (hy : zA d y) (hs : zK y ≤ 4611686018427387904) => zGW n d y hy (by omega) hs
  have hsub : ∀ t ∈ a, t.Factors.length ≤ 1000000 ∧ ∀ f ∈ t.Factors, (f.Atom.Args.length ≤ 1000000 ∧ f.Atom.Items.length ≤ 1000000) ∧ (∀ y ∈ f.Atom.Args, zA d y ∧ zK y ≤ 4611686018427387904) ∧ ∀ y ∈ f.Atom.Items, zA d y.Ann ∧ zK y.Ann ≤ 4611686018427387904 := fun t ht => by
   obtain ⟨h1, h2⟩ := zCe h ht
   refine ⟨h1, fun f hf => ?_⟩
   obtain ⟨h3, h4, h5⟩ := h2 f hf
   have h6 := zIz ht hf
   exact ⟨h3, fun y hy => ⟨h4 y hy, by have := zLD hy; omega⟩, fun y hy => ⟨h5 y hy, by have := zKA hy; omega⟩⟩
  constructor
  ·rw [zDu]
   unfold znX zp2
   have h1 := zQ5 (zjl n) a h.1 (fun t ht => ⟨(hsub t ht).1, fun f hf => ⟨((hsub t ht).2 f hf).1, fun y hy => (hg y (((hsub t ht).2 f hf).2.1 y hy).1 (((hsub t ht).2 f hf).2.1 y hy).2).1, fun y hy => (hg _ (((hsub t ht).2 f hf).2.2 y hy).1 (((hsub t ht).2 f hf).2.2 y hy).2).1⟩⟩)
    (Int.toNat 0 + a.length + (Int.ofNat a.length).toNat + Int.toNat 0 + 1) 0 (by omega) (by omega)
   rw [show ((0 : Nat) : Int) = (0 : Int) from rfl, Nat.zero_add] at h1
   rw [Wy.fin_bn, show Int.ofNat a.length = (a.length : Int) from rfl] at *
   rw [h1]; rfl
  ·rw [zIe]
   unfold zAX zC6
   have h1 := zP4 (zrq n) a h.1 (fun t ht => ⟨(hsub t ht).1, fun f hf => ⟨((hsub t ht).2 f hf).1, fun y hy => (hg y (((hsub t ht).2 f hf).2.1 y hy).1 (((hsub t ht).2 f hf).2.1 y hy).2).2, fun y hy => (hg _ (((hsub t ht).2 f hf).2.2 y hy).1 (((hsub t ht).2 f hf).2.2 y hy).2).2⟩⟩)
    (a.length + Int.toNat 0 + Int.toNat 0 + 1 + szTs a) 0 (by omega) (by omega)
   rw [show ((0 : Nat) : Int) = (0 : Int) from rfl, Nat.zero_add] at h1
   rw [Wy.fin_bn, h1]; rfl
mutual
def zl7 : Atom → Nat
 | ⟨k, _, a, _, i, _, _⟩ => if k = 0 then 0 else 1 + max (zj6 a) (ziP i)
def zdO : List Factor → Nat
 | [] => 0
 | ⟨x, _⟩ :: r => max (zl7 x) (zdO r)
def zbg : List Term → Nat
 | [] => 0
 | ⟨_, fs⟩ :: r => max (zdO fs) (zbg r)
def zj6 : List (List Term) → Nat
 | [] => 0
 | a :: r => max (zbg a) (zj6 r)
def ziP : List Weighted → Nat
 | [] => 0
 | ⟨_, a⟩ :: r => max (zbg a) (ziP r)
end
theorem zvs (x : Atom) : zl7 x = if x.Kind = 0 then 0 else 1 + max (zj6 x.Args) (ziP x.Items) := by cases x; rw [zl7]
theorem zuN (f : Factor) (r : List Factor) : zdO (f :: r) = max (zl7 f.Atom) (zdO r) := by cases f; rw [zdO]
theorem zxa (t : Term) (r : List Term) : zbg (t :: r) = max (zdO t.Factors) (zbg r) := by cases t; rw [zbg]
theorem zvw (a : List Term) (r : List (List Term)) : zj6 (a :: r) = max (zbg a) (zj6 r) := by rw [zj6]
theorem ztv (w : Weighted) (r : List Weighted) : ziP (w :: r) = max (zbg w.Ann) (ziP r) := by cases w; rw [ziP]
theorem zCp : zj6 [] = 0 := by rw [zj6]
theorem zAs : ziP [] = 0 := by rw [ziP]
theorem zwA : zdO [] = 0 := by rw [zdO]
theorem zDl : zbg [] = 0 := by rw [zbg]
theorem zMR (l : List (List Term)) : ∀ n : Nat, l.foldl (fun s t => max s (zbg t)) n = max n (zj6 l) := by
 induction l with
 | nil => intro n; rw [zCp]; exact (Nat.max_zero n).symm
 | cons a r ih => intro n; rw [List.foldl_cons, ih, zvw]; omega
theorem zLB (l : List Weighted) : ∀ n : Nat, l.foldl (fun s t => max s (zbg t.Ann)) n = max n (ziP l) := by
 induction l with
 | nil => intro n; rw [zAs]; exact (Nat.max_zero n).symm
 | cons a r ih => intro n; rw [List.foldl_cons, ih, ztv]; omega
theorem zLy (l : List (List Term)) : ∀ n : Nat, l.foldl (fun s t => max s (1 + zbg t)) (1 + n) = 1 + max n (zj6 l) := by
 induction l with
 | nil => intro n; rw [zCp]; simp
 | cons a r ih => intro n; rw [List.foldl_cons, show max (1 + n) (1 + zbg a) = 1 + max n (zbg a) by omega, ih, zvw]; omega
theorem zLq (l : List Weighted) : ∀ n : Nat, l.foldl (fun s t => max s (1 + zbg t.Ann)) (1 + n) = 1 + max n (ziP l) := by
 induction l with
 | nil => intro n; rw [zAs]; simp
 | cons a r ih => intro n; rw [List.foldl_cons, show max (1 + n) (1 + zbg a.Ann) = 1 + max n (zbg a.Ann) by omega, ih, ztv]; omega
theorem zD5 (l : List Factor) : ∀ n : Nat, l.foldl (fun s t => max s (zl7 t.Atom)) n = max n (zdO l) := by
 induction l with
 | nil => intro n; rw [zwA]; exact (Nat.max_zero n).symm
 | cons a r ih => intro n; rw [List.foldl_cons, ih, zuN]; omega
theorem zJg (l : List Term) : ∀ n : Nat, l.foldl (fun s t => max s (zdO t.Factors)) n = max n (zbg l) := by
 induction l with
 | nil => intro n; rw [zDl]; exact (Nat.max_zero n).symm
 | cons a r ih => intro n; rw [List.foldl_cons, ih, zxa]; omega
theorem zF6 (a b : Nat) : (if (a : Int) > (b : Int) then (a : Int) else (b : Int)) = ((max b a : Nat) : Int) := by split <;> omega
theorem zHO {d : Nat} : ∀ l : List (List Term), (∀ y ∈ l, zbg y ≤ d) → zj6 l ≤ d := fun l => by
 induction l with
 | nil => intro _; rw [zCp]; omega
 | cons y r ih => intro hy; rw [zvw]; have h1 := hy y (by simp); have h2 := ih fun z hz => hy z (by simp [hz]); omega
theorem zGM {d : Nat} : ∀ l : List Weighted, (∀ y ∈ l, zbg y.Ann ≤ d) → ziP l ≤ d := fun l => by
 induction l with
 | nil => intro _; rw [zAs]; omega
 | cons y r ih => intro hy; rw [ztv]; have h1 := hy y (by simp); have h2 := ih fun z hz => hy z (by simp [hz]); omega
theorem zJZ {d : Nat} : ∀ l : List Factor, (∀ y ∈ l, zl7 y.Atom ≤ d) → zdO l ≤ d := fun l => by
 induction l with
 | nil => intro _; rw [zwA]; omega
 | cons y r ih => intro hy; rw [zuN]; have h1 := hy y (by simp); have h2 := ih fun z hz => hy z (by simp [hz]); omega
theorem zNF {d : Nat} : ∀ l : List Term, (∀ y ∈ l, zdO y.Factors ≤ d) → zbg l ≤ d := fun l => by
 induction l with
 | nil => intro _; rw [zDl]; omega
 | cons y r ih => intro hy; rw [zxa]; have h1 := hy y (by simp); have h2 := ih fun z hz => hy z (by simp [hz]); omega
theorem zDN : ∀ (d : Nat) (a : List Term), zA d a → zbg a ≤ d
 | 0, a, h => h.elim
 | d + 1, a, h => zNF a fun t ht => zJZ _ fun f hf => by
  obtain ⟨_, h2⟩ := zCe h ht
  obtain ⟨_, h4, h5⟩ := h2 f hf
  have q1 := zHO f.Atom.Args fun y hy => zDN d y (h4 y hy)
  have q2 := zGM f.Atom.Items fun y hy => zDN d y.Ann (h5 y hy)
  rw [zvs]; split <;> omega
section
variable (g : List Term → Bool × Int)
theorem zRk (l : List (List Term)) (hl : l.length ≤ 1000000) (hg : ∀ y ∈ l, g y = (true, (zbg y : Int))) (nn : Int) (t13 : List Term) (t14 t15 : Int) (t20 : List Factor) (t21 t22 : Int) (f : Factor) (fuel n : Nat) (hf : l.length < fuel) :
  zq5 g fuel nn n t13 t14 t15 t20 t21 t22 l l.length 0 f = (true, (nn, ((max n (zj6 l) : Nat) : Int), t13, t14, t15, t20, t21, t22, f)) := by
 have h := zcv (W := ziZ g) (z := default) (l := l) (fun i (n : Nat) => (nn, (), (n : Int), t13, t14, t15, t20, t21, t22, l, (l.length : Int), (i : Int), ())) (fun _ _ => (f, ())) (fun y n => .inl (max n (zbg y))) (fun n => (nn, (n : Int), t13, t14, t15, t20, t21, t22, f)) (fun i n => True)
  (fun i n hi hI => .inl ⟨_, rfl, trivial, fun H K D => by
   show (zgv g nn n t13 t14 t15 t20 t21 t22 l l.length i f).ev H K D = _
   unfold zgv
   simp only [Wy.ev_i, Wy.ev_k, Wy.ev_h, Wy.ev_bn, Wy.ev_d, tT, hi, hg _ (zC hi), zF6]
   rw [zfl (by omega)]⟩)
  (fun n hI H K D => by
   show (zgv g nn n t13 t14 t15 t20 t21 t22 l l.length l.length f).ev H K D = _
   unfold zgv
   simp only [Wy.ev_i, Wy.ev_k, tT, Nat.lt_irrefl]) fuel 0 n (by omega) (Nat.zero_le _) trivial
 rw [List.drop_zero, zcs, zMR] at h
 exact h
theorem zQ9 (l : List Weighted) (hl : l.length ≤ 1000000) (hg : ∀ y ∈ l, g y.Ann = (true, (zbg y.Ann : Int))) (nn : Int) (t13 : List Term) (t14 t15 : Int) (t20 : List Factor) (t21 t22 : Int) (fuel n : Nat) (hf : l.length < fuel) :
  zrs g fuel nn n t13 t14 t15 t20 t21 t22 l l.length 0 = (true, (nn, ((max n (ziP l) : Nat) : Int), t13, t14, t15, t20, t21, t22)) := by
 have h := zcv (W := zi2 g) (z := default) (l := l) (fun i (n : Nat) => (nn, (n : Int), t13, t14, t15, t20, t21, t22, l, (l.length : Int), (i : Int), ())) (fun _ _ => ()) (fun y n => .inl (max n (zbg y.Ann))) (fun n => (nn, (n : Int), t13, t14, t15, t20, t21, t22)) (fun i n => True)
  (fun i n hi hI => .inl ⟨_, rfl, trivial, fun H K D => by
   show (zgN g nn n t13 t14 t15 t20 t21 t22 l l.length i).ev H K D = _
   unfold zgN
   simp only [Wy.ev_i, Wy.ev_k, Wy.ev_h, Wy.ev_bn, Wy.ev_d, tT, hi, hg _ (zC hi), zF6]
   rw [zfl (by omega)]⟩)
  (fun n hI H K D => by
   show (zgN g nn n t13 t14 t15 t20 t21 t22 l l.length l.length).ev H K D = _
   unfold zgN
   simp only [Wy.ev_i, Wy.ev_k, tT, Nat.lt_irrefl]) fuel 0 n (by omega) (Nat.zero_le _) trivial
 rw [List.drop_zero, zcs, zLB] at h
 exact h
def NesG (x : Atom) : Prop := (x.Args.length ≤ 1000000 ∧ x.Items.length ≤ 1000000) ∧ (zl7 x ≤ 1000 ∧ (∀ y ∈ x.Args, zbg y ≤ 1000) ∧ ∀ y ∈ x.Items, zbg y.Ann ≤ 1000) ∧ (∀ y ∈ x.Args, g y = (true, (zbg y : Int))) ∧ ∀ y ∈ x.Items, g y.Ann = (true, (zbg y.Ann : Int))
theorem zRD (l : List Factor) (hl : l.length ≤ 1000000) (hg : ∀ f ∈ l, NesG g f.Atom) (t13 : List Term) (t14 t15 : Int) (fuel n : Nat) (hf : l.length < fuel) :
  zsh g fuel n t13 t14 t15 l l.length 0 = (true, (((max n (zdO l) : Nat) : Int), t13, t14, t15)) := by
 have h := zcv (W := zjB g) (z := default) (l := l) (fun i (n : Nat) => ((n : Int), t13, t14, t15, l, (l.length : Int), (i : Int), ())) (fun _ _ => ()) (fun y n => .inl (max n (zl7 y.Atom))) (fun n => ((n : Int), t13, t14, t15)) (fun i n => True)
  (fun i n hi hI => .inl ⟨_, rfl, trivial, fun H K D => by
   obtain ⟨⟨h1, h2⟩, ⟨h5, _, _⟩, h3, h4⟩ := hg _ (zC hi)
   show (zhm g n t13 t14 t15 l l.length i).ev H K D = _
   unfold zhm
   simp only [Wy.ev_i, Wy.ev_k, Wy.ev_h, Wy.ev_bn, Wy.ev_d, tT, hi, Atom.eta]
   generalize l.getD i default = f at *
   rw [zvs] at h5 ⊢
   by_cases hk : f.Atom.Kind = 0
   ·have e : (f.Atom.Kind == 0) = true := by simp [hk]
    simp only [e, cond_true]
    rw [if_pos hk, Nat.max_zero, zfl (by omega)]
   ·have e : (f.Atom.Kind == 0) = false := by simp [hk]
    simp only [e, cond_false]
    rw [if_neg hk] at h5 ⊢
    have q := fun fuel hf => zRk g _ h1 h3 n t13 t14 t15 l l.length i f fuel 0 hf
    rw [Nat.zero_max, show ((0 : Nat) : Int) = (0 : Int) from rfl] at q
    rw [q _ (by omega)]
    simp only [cond_true, Int.toNat_natCast]
    rw [zQ9 g _ h2 h4 n t13 t14 t15 l l.length i _ _ (by omega)]
    simp only [cond_true]
    rw [zfl (by omega), show (1 : Int) = ((1 : Nat) : Int) from rfl, zla (n := 1) (by omega), zF6]⟩)
  (fun n hI H K D => by
   show (zhm g n t13 t14 t15 l l.length l.length).ev H K D = _
   unfold zhm
   simp only [Wy.ev_i, Wy.ev_k, tT, Nat.lt_irrefl]) fuel 0 n (by omega) (Nat.zero_le _) trivial
 rw [List.drop_zero, zcs, zD5] at h
 exact h
theorem zRM (l : List Term) (hl : l.length ≤ 1000000) (hg : ∀ t ∈ l, t.Factors.length ≤ 1000000 ∧ ∀ f ∈ t.Factors, NesG g f.Atom) (fuel n : Nat) (hf : l.length < fuel) :
  zsm g fuel n l l.length 0 = (true, ((max n (zbg l) : Nat) : Int)) := by
 have h := zcv (W := zjF g) (z := default) (l := l) (fun i (n : Nat) => ((n : Int), l, (l.length : Int), (i : Int), ())) (fun _ _ => ()) (fun y n => .inl (max n (zdO y.Factors))) (fun n => (n : Int)) (fun i n => True)
  (fun i n hi hI => .inl ⟨_, rfl, trivial, fun H K D => by
   obtain ⟨h1, h3⟩ := hg _ (zC hi)
   show (zhr g n l l.length i).ev H K D = _
   unfold zhr
   simp only [Wy.ev_i, Wy.ev_k, Wy.ev_h, Wy.ev_bn, Wy.ev_d, tT, hi, Atom.eta]
   rw [zRD g _ h1 h3 _ _ _ _ _ (by omega)]
   simp only [cond_true]
   rw [zfl (by omega)]⟩)
  (fun n hI H K D => by
   show (zhr g n l l.length l.length).ev H K D = _
   unfold zhr
   simp only [Wy.ev_i, Wy.ev_k, tT, Nat.lt_irrefl]) fuel 0 n (by omega) (Nat.zero_le _) trivial
 rw [List.drop_zero, zcs, zJg] at h
 exact h
theorem zP5 (x : Atom) (hx : NesG g x) (a : List Term) (most i k : Int) (fuel n : Nat) (hf : x.Args.length < fuel) :
  zpZ g fuel a most i k ((1 + n : Nat) : Int) 0 x = (true, (a, most, i, k, ((1 + max n (zj6 x.Args) : Nat) : Int), x)) := by
 obtain ⟨⟨h1, h2⟩, ⟨h5, h6, h7⟩, h3, h4⟩ := hx
 have h := zcv (W := zvZ g) (z := default) (l := x.Args) (fun j (n : Nat) => (a, most, i, k, (), (n : Int), (j : Int), ())) (fun _ _ => (x, ())) (fun y n => .inl (max n (1 + zbg y))) (fun n => (a, most, i, k, (n : Int), x)) (fun i n => True)
  (fun j n hi hI => .inl ⟨_, rfl, trivial, fun H K D => by
   have h8 := h6 _ (zC hi)
   show (zjO g a most i k n j x).ev H K D = _
   unfold zjO
   simp only [Wy.ev_i, Wy.ev_k, Wy.ev_h, Wy.ev_bn, Wy.ev_d, tT, hi, h3 _ (zC hi)]
   rw [zfl (by omega), show (1 : Int) = ((1 : Nat) : Int) from rfl, zla (n := 1) (by omega), zF6]⟩)
  (fun n hI H K D => by
   show (zjO g a most i k n x.Args.length x).ev H K D = _
   unfold zjO
   simp only [Wy.ev_i, Wy.ev_k, tT, Nat.lt_irrefl]) fuel 0 (1 + n) (by omega) (Nat.zero_le _) trivial
 rw [List.drop_zero, zcs, zLy] at h
 exact h
theorem zP7 (x : Atom) (hx : NesG g x) (a : List Term) (most i k : Int) (fuel n : Nat) (hf : x.Items.length < fuel) :
  zwe g fuel a most i k ((1 + n : Nat) : Int) 0 x = (true, (a, most, i, k, ((1 + max n (ziP x.Items) : Nat) : Int))) := by
 obtain ⟨⟨h1, h2⟩, ⟨h5, h6, h7⟩, h3, h4⟩ := hx
 have h := zcv (W := zv8 g) (z := default) (l := x.Items) (fun j (n : Nat) => (a, most, i, k, (), (n : Int), (j : Int), ())) (fun _ _ => (x, ())) (fun y n => .inl (max n (1 + zbg y.Ann))) (fun n => (a, most, i, k, (n : Int))) (fun i n => True)
  (fun j n hi hI => .inl ⟨_, rfl, trivial, fun H K D => by
   have h8 := h7 _ (zC hi)
   show (zjS g a most i k n j x).ev H K D = _
   unfold zjS
   simp only [Wy.ev_i, Wy.ev_k, Wy.ev_h, Wy.ev_bn, Wy.ev_d, tT, hi, h4 _ (zC hi)]
   rw [zfl (by omega), show (1 : Int) = ((1 : Nat) : Int) from rfl, zla (n := 1) (by omega), zF6]⟩)
  (fun n hI H K D => by
   show (zjS g a most i k n x.Items.length x).ev H K D = _
   unfold zjS
   simp only [Wy.ev_i, Wy.ev_k, tT, Nat.lt_irrefl]) fuel 0 (1 + n) (by omega) (Nat.zero_le _) trivial
 rw [List.drop_zero, zcs, zLq] at h
 exact h
theorem RNes_12' (x : Atom) (hx : NesG g x) (a : List Term) (most i k : Int) (fuel : Nat) (hf : x.Args.length < fuel) : zpZ g fuel a most i k 1 0 x = (true, (a, most, i, k, ((1 + zj6 x.Args : Nat) : Int), x)) := by
 have h := zP5 g x hx a most i k fuel 0 hf
 rw [Nat.zero_max] at h; exact h
theorem zQ7 (a : List Term) (i : Nat) (hi : i < a.length) (hla : a.length ≤ 1000000) (l : List Factor) (el : (a.getD i default).Factors = l) (hl : l.length ≤ 1000000) (hg : ∀ f ∈ l, NesG g f.Atom) (fuel n : Nat) (hf : l.length < fuel) :
  zya g fuel a n i 0 = (true, (a, ((max n (zdO l) : Nat) : Int), (i : Int))) := by
 have h := zcv (W := zxk g) (z := default) (l := l) (fun k (n : Nat) => (a, (n : Int), (i : Int), (k : Int), ())) (fun _ _ => ()) (fun y n => .inl (max n (zl7 y.Atom))) (fun n => (a, (n : Int), (i : Int))) (fun k n => True)
  (fun k n hk hI => .inl ⟨_, rfl, trivial, fun H K D => by
   have hx := hg _ (zC hk)
   have h5 := hx.2.1.1
   show (zkA g a n i k).ev H K D = _
   unfold zkA
   simp only [Wy.ev_i, Wy.ev_k, Wy.ev_h, Wy.ev_bn, Wy.ev_d, tT, hi, el, hk, Atom.eta]
   generalize l.getD k default = f at *
   rw [zvs] at h5 ⊢
   by_cases hz : f.Atom.Kind = 0
   ·have e : (f.Atom.Kind == 0) = true := by simp [hz]
    simp only [e, cond_true]
    rw [if_pos hz, Nat.max_zero, zfl (by omega)]
   ·have e : (f.Atom.Kind == 0) = false := by simp [hz]
    have hx1 := hx.1
    simp only [e, cond_false]
    rw [if_neg hz] at h5 ⊢
    rw [RNes_12' g _ hx _ _ _ _ _ (by omega)]
    simp only [cond_true, Int.toNat_natCast, Atom.eta]
    rw [zP7 g _ hx _ _ _ _ _ _ (by omega)]
    simp only [cond_true]
    rw [zfl (by omega), zF6]⟩)
  (fun n hI H K D => by
   show (zkA g a n i l.length).ev H K D = _
   unfold zkA
   simp only [Wy.ev_i, Wy.ev_k, tT, hi, el, Nat.lt_irrefl]) fuel 0 n (by omega) (Nat.zero_le _) trivial
 rw [List.drop_zero, zcs, zD5] at h
 exact h
theorem zRh (l : List Term) (hl : l.length ≤ 1000000) (hg : ∀ t ∈ l, t.Factors.length ≤ 1000000 ∧ ∀ f ∈ t.Factors, NesG g f.Atom) (fuel n : Nat) (hf : l.length < fuel) :
  zxo g fuel l n 0 = (true, ((max n (zbg l) : Nat) : Int)) := by
 have h := zcv (W := zxj g) (z := default) (l := l) (fun i (n : Nat) => (l, (n : Int), (i : Int), ())) (fun _ _ => ()) (fun y n => .inl (max n (zdO y.Factors))) (fun n => (n : Int)) (fun i n => True)
  (fun i n hi hI => .inl ⟨_, rfl, trivial, fun H K D => by
   obtain ⟨h1, h3⟩ := hg _ (zC hi)
   have hz := zAz l i hi
   show (zkE g l n i).ev H K D = _
   unfold zkE
   simp only [Wy.ev_i, Wy.ev_k, Wy.ev_h, Wy.ev_bn, Wy.ev_d, tT, hi, Atom.eta]
   rw [zQ7 g l i hi hl _ rfl h1 h3 _ _ (by omega)]
   simp only [cond_true]
   rw [zfl (by omega)]⟩)
  (fun n hI H K D => by
   show (zkE g l n l.length).ev H K D = _
   unfold zkE
   simp only [Wy.ev_i, Wy.ev_k, tT, Nat.lt_irrefl]) fuel 0 n (by omega) (Nat.zero_le _) trivial
 rw [List.drop_zero, zcs, zJg] at h
 exact h
end
theorem zI3 : ∀ (n d : Nat) (a : List Term), zA d a → d ≤ n → d ≤ 100 → zeT n a = (true, (zbg a : Int)) ∧ zkX n a = (true, (zbg a : Int))
 | n, 0, a, h, hd, hs => h.elim
 | 0, d + 1, a, h, hd, hs => by omega
 | n + 1, d + 1, a, h, hd, hs => by
  have hg := fun y (hy : zA d y) => zI3 n d y hy (by omega) (by omega)
  have hsub : ∀ t ∈ a, t.Factors.length ≤ 1000000 ∧ ∀ f ∈ t.Factors, NesG (zeT n) f.Atom ∧ NesG (zkX n) f.Atom := fun t ht => by
   obtain ⟨h1, h2⟩ := zCe h ht
   refine ⟨h1, fun f hf => ?_⟩
   obtain ⟨h3, h4, h5⟩ := h2 f hf
   have q1 : ∀ y ∈ f.Atom.Args, zbg y ≤ d := fun y hy => zDN d y (h4 y hy)
   have q2 : ∀ y ∈ f.Atom.Items, zbg y.Ann ≤ d := fun y hy => zDN d y.Ann (h5 y hy)
   have q3 : zl7 f.Atom ≤ 1000 := by
    have r1 := zHO _ q1; have r2 := zGM _ q2
    rw [zvs]; split <;> omega
   have q4 : zl7 f.Atom ≤ 1000 ∧ (∀ y ∈ f.Atom.Args, zbg y ≤ 1000) ∧ ∀ y ∈ f.Atom.Items, zbg y.Ann ≤ 1000 := ⟨q3, fun y hy => by have := q1 y hy; omega, fun y hy => by have := q2 y hy; omega⟩
   exact ⟨⟨h3, q4, fun y hy => (hg y (h4 y hy)).1, fun y hy => (hg _ (h5 y hy)).1⟩, ⟨h3, q4, fun y hy => (hg y (h4 y hy)).2, fun y hy => (hg _ (h5 y hy)).2⟩⟩
  constructor
  ·rw [zBg]
   unfold zlE znC
   have h1 := zRM (zeT n) a h.1 (fun t ht => ⟨(hsub t ht).1, fun f hf => ((hsub t ht).2 f hf).1⟩) (Int.toNat 0 + a.length + (Int.ofNat a.length).toNat + Int.toNat 0 + 1) 0 (by omega)
   rw [show ((0 : Nat) : Int) = (0 : Int) from rfl, Nat.zero_max] at h1
   rw [Wy.fin_bn, show Int.ofNat a.length = (a.length : Int) from rfl] at *
   rw [h1]; rfl
  ·rw [zE0]
   unfold zuJ zzb
   have h1 := zRh (zkX n) a h.1 (fun t ht => ⟨(hsub t ht).1, fun f hf => ((hsub t ht).2 f hf).2⟩) (a.length + Int.toNat 0 + Int.toNat 0 + 1 + szTs a) 0 (by omega)
   rw [show ((0 : Nat) : Int) = (0 : Int) from rfl, Nat.zero_max] at h1
   rw [Wy.fin_bn, h1]; rfl
theorem zqD (x y : Int) : zd6 x y = (true, cmpI x y) := by
 unfold zd6 zsF zm8 zvb cmpI
 by_cases h1 : x < y
 ·simp [h1, Wy.fin_i, Wy.fin_k]
 ·by_cases h2 : y < x <;> simp [h1, h2, Wy.fin_i, Wy.fin_k]
theorem zvx (x y : Int) : zhB x y = (true, cmpI x y) := by
 unfold zhB zpX zkT zsv cmpI
 by_cases h1 : x < y
 ·simp [h1, Wy.fin_i, Wy.fin_k]
 ·by_cases h2 : y < x <;> simp [h1, h2, Wy.fin_i, Wy.fin_k]
def zow : List Int → Int
 | [] => 0
 | x :: r => if x = 0 then zow r else x
theorem zMl (l : List Int) (hl : l.length ≤ 1000000) : ∀ (n i : Nat), l.length < i + n → i ≤ l.length → ∃ r, zyu n 0 l l.length i = (true, r) ∧ (r = .inl (zow (l.drop i)) ∨ (r = .inr 0 ∧ zow (l.drop i) = 0))
 | 0, i, h, h2 => by omega
 | n + 1, i, h, h2 => by
  show ∃ r, (zyq 0 l l.length i).ev (fun x y => zyu n x.1 x.2.1 x.2.2.1 x.2.2.2.1) (fun r => (true, r)) (false, .inl default) = (true, r) ∧ _
  unfold zyq
  by_cases hi : i < l.length
  ·simp only [Wy.ev_i, Wy.ev_k, Wy.ev_h, Int.ofNat_eq_natCast, zAU, zfe, decide_true, decide_false, Bool.and_self, Bool.true_and, Bool.and_true, cond_true, cond_false, Int.toNat_natCast, Bool.not_true, Bool.not_false, hi]
   obtain ⟨r, h1, h3⟩ := zMl l hl n (i + 1) (by omega) (by omega)
   rw [zbF hi, zY (by omega), h1]
   generalize l.getD i default = x
   by_cases hx : x = 0
   ·have e : (x != 0) = false := by simp [hx]
    simp only [e, cond_false, zow, hx, if_true]
    exact ⟨r, rfl, h3⟩
   ·have e : (x != 0) = true := by simp [hx]
    simp only [e, cond_true, zow, hx, if_false]
    exact ⟨_, rfl, .inl rfl⟩
  ·simp only [Wy.ev_i, Wy.ev_k, Wy.ev_h, Int.ofNat_eq_natCast, zAU, zfe, decide_true, decide_false, Bool.and_self, Bool.true_and, Bool.and_true, cond_true, cond_false, Int.toNat_natCast, Bool.not_true, Bool.not_false, hi, zeQ hi]
   exact ⟨_, rfl, .inr ⟨rfl, rfl⟩⟩
theorem zpI (l : List Int) (hl : l.length ≤ 1000000) : zlO l = (true, zow l) := by
 unfold zlO zAQ
 obtain ⟨r, h1, h2⟩ := zMl l hl (Int.toNat 0 + l.length + (Int.ofNat l.length).toNat + Int.toNat 0 + 1) 0 (by simp; omega) (by omega)
 rw [show ((0 : Nat) : Int) = (0 : Int) from rfl] at h1
 rw [Wy.fin_bn, show Int.ofNat l.length = (l.length : Int) from rfl] at *
 rw [h1]
 rw [List.drop_zero] at h2
 rcases h2 with rfl | ⟨rfl, h2⟩
 ·rfl
 ·rw [h2]; rfl
section
variable {α : Type}
def lexG (c : α → α → Int) : List α → List α → Int
 | [], [] => 0
 | [], _ :: _ => -1
 | _ :: _, [] => 1
 | x :: a, y :: b => if c x y = 0 then lexG c a b else c x y
theorem zBs (e : α → TT) {c : α → α → Int} : ∀ (a b : List α), (∀ x ∈ a, ∀ y ∈ b, c x y = cmpT (e x) (e y)) → lexG c a b = cmpL (a.map e) (b.map e)
 | [], [], _ => by simp only [lexG, List.map, cmpL]
 | [], _ :: _, _ => by simp only [lexG, List.map, cmpL]
 | _ :: _, [], _ => by simp only [lexG, List.map, cmpL]
 | x :: a, y :: b, h => by
  simp only [lexG, List.map, cmpL]
  rw [h x (by simp) y (by simp), zBs e a b fun x hx y hy => h x (by simp [hx]) y (by simp [hy])]
variable [Inhabited α]
def zJ4 (g : α → α → Bool × Int) (s1 : List α) (s2 : List α) (t11 : List α) (t12 : Int) (t13 : Int) : Wy (List α × List α × Unit × List α × Int × Int × Unit) (Unit) (Int ⊕ (List α × List α)) := .i (decide (t13 < t12)) (.i (decide ((0 : Int) ≤ t13) && decide (t13 < Int.ofNat t11.length)) (.i (decide (t13 ≥ Int.ofNat s2.length)) (.k (.inl (1 : Int))) (.i (decide ((0 : Int) ≤ t13) && decide (t13 < Int.ofNat s2.length)) (.bn (g (t11.getD t13.toNat default) (s2.getD t13.toNat default)) fun r0 => .i (r0 != (0 : Int)) (.k (.inl (r0))) (.h (s1, s2, (), t11, t12, (IntKind.i64.wrap (t13 + (1 : Int))), ()) ())) .d)) .d) (.k (.inr (s1, s2)))
def zNA (g : α → α → Bool × Int) (x : List α × List α × Unit × List α × Int × Int × Unit) (y : Unit) : Wy (List α × List α × Unit × List α × Int × Int × Unit) (Unit) (Int ⊕ (List α × List α)) := zJ4 g x.1 x.2.1 x.2.2.2.1 x.2.2.2.2.1 x.2.2.2.2.2.1
def zNc (g : α → α → Bool × Int) (n : Nat) (s1 : List α) (s2 : List α) (t11 : List α) (t12 : Int) (t13 : Int) : Bool × (Int ⊕ (List α × List α)) := zN (zNA g) (.inl default) n (s1, s2, (), t11, t12, t13, ()) ()
def CF (g : α → α → Bool × Int) (s1 s2 : List α) : Bool × Int := (.bn (zNc g (s1.length + s2.length + s1.length + (Int.ofNat s1.length).toNat + Int.toNat (0 : Int) + (1 : Nat)) s1 s2 s1 (Int.ofNat s1.length) (0 : Int)) fun r2 => .i (isL r2) (.k (getL r2)) (.i (decide (Int.ofNat (getR r2).fst.length < Int.ofNat (getR r2).snd.length)) (.k (-1 : Int)) (.k (0 : Int))) : Wy0 Int).fin default
theorem zMC (g : α → α → Bool × Int) (c : α → α → Int) (a b : List α) (ha : a.length ≤ 1000000) (hg : ∀ x ∈ a, ∀ y ∈ b, g x y = (true, c x y)) : ∀ (n i : Nat), a.length < i + n → i ≤ a.length → i ≤ b.length →
  ∃ r, zNc g n a b a a.length i = (true, r) ∧ ((r = .inl (lexG c (a.drop i) (b.drop i))) ∨ (r = .inr (a, b) ∧ lexG c (a.drop i) (b.drop i) = if a.length < b.length then -1 else 0))
 | 0, i, h, h2, h3 => by omega
 | n + 1, i, h, h2, h3 => by
  show ∃ r, (zJ4 g a b a a.length i).ev (fun x y => zNc g n x.1 x.2.1 x.2.2.2.1 x.2.2.2.2.1 x.2.2.2.2.2.1) (fun r => (true, r)) (false, .inl default) = (true, r) ∧ _
  unfold zJ4
  by_cases hi : i < a.length
  ·by_cases hi' : i < b.length
   ·have hg' : ¬ b.length ≤ i := by omega
    simp only [Wy.ev_i, Wy.ev_k, Wy.ev_h, Wy.ev_bn, Wy.ev_d, Int.ofNat_eq_natCast, zAU, zfe, decide_true, decide_false, Bool.and_self, Bool.true_and, Bool.and_true, cond_true, cond_false, Int.toNat_natCast, Bool.not_true, Bool.not_false, hi, hi', zNI, hg', hg _ (zC hi) _ (zC hi')]
    rw [zbF hi, zbF hi', zY (by omega)]
    simp only [lexG]
    generalize c (a.getD i default) (b.getD i default) = z
    by_cases hx : z = 0
    ·have e : (z != 0) = false := by simp [hx]
     simp only [e, cond_false, hx, if_true]
     exact zMC g c a b ha hg n (i + 1) (by omega) (by omega) (by omega)
    ·have e : (z != 0) = true := by simp [hx]
     simp only [e, cond_true, hx, if_false]
     exact ⟨_, rfl, .inl rfl⟩
   ·have hg' : b.length ≤ i := by omega
    simp only [Wy.ev_i, Wy.ev_k, Wy.ev_h, Wy.ev_bn, Wy.ev_d, Int.ofNat_eq_natCast, zAU, zfe, decide_true, decide_false, Bool.and_self, Bool.true_and, Bool.and_true, cond_true, cond_false, Int.toNat_natCast, Bool.not_true, Bool.not_false, hi, zNI, hg']
    refine ⟨_, rfl, .inl ?_⟩
    rw [zbF hi, zeQ hi']; rfl
  ·simp only [Wy.ev_i, Wy.ev_k, Wy.ev_h, Wy.ev_bn, Wy.ev_d, Int.ofNat_eq_natCast, zAU, zfe, decide_true, decide_false, Bool.and_self, Bool.true_and, Bool.and_true, cond_true, cond_false, Int.toNat_natCast, Bool.not_true, Bool.not_false, hi]
   refine ⟨_, rfl, .inr ⟨rfl, ?_⟩⟩
   rw [zeQ hi]
   by_cases hi' : i < b.length
   ·rw [zbF hi', if_pos (by omega)]; rfl
   ·rw [zeQ hi', if_neg (by omega)]; rfl
theorem zRO (g : α → α → Bool × Int) (c : α → α → Int) (a b : List α) (ha : a.length ≤ 1000000) (hg : ∀ x ∈ a, ∀ y ∈ b, g x y = (true, c x y)) : CF g a b = (true, lexG c a b) := by
 unfold CF
 obtain ⟨r, h1, h2⟩ := zMC g c a b ha hg (a.length + b.length + a.length + (Int.ofNat a.length).toNat + Int.toNat 0 + 1) 0 (by simp; omega) (by omega) (by omega)
 rw [show ((0 : Nat) : Int) = (0 : Int) from rfl] at h1
 rw [Wy.fin_bn, show Int.ofNat a.length = (a.length : Int) from rfl] at *
 rw [h1]
 simp only [List.drop_zero] at h2
 rcases h2 with rfl | ⟨rfl, h2⟩
 ·rfl
 ·rw [h2]
  simp only [Wy.fin_i, Wy.fin_k, Int.ofNat_eq_natCast, zAU, zfe, decide_true, decide_false, Bool.and_self, Bool.true_and, Bool.and_true, cond_true, cond_false, Int.toNat_natCast, Bool.not_true, Bool.not_false, isL, getR]
  by_cases h3 : a.length < b.length <;> simp [h3]
end
theorem zFX {α : Type} [Inhabited α] (e : α → TT) (g : α → α → Bool × Int) (a b : List α) (ha : a.length ≤ 1000000) (hg : ∀ x ∈ a, ∀ y ∈ b, g x y = (true, cmpT (e x) (e y))) : CF g a b = (true, cmpL (a.map e) (b.map e)) := by
 rw [zRO g (fun x y => cmpT (e x) (e y)) a b ha hg, zBs e a b fun _ _ _ _ => rfl]
theorem Factor.eta2 (x : Factor) : (FactorOf.mk (Atom.mk x.Atom.Kind x.Atom.Row x.Atom.Args x.Atom.Func x.Atom.Items x.Atom.Op x.Atom.Bound) x.Exp : Factor) = x := by rw [Atom.eta]
theorem zPh (g) : zbv g = CF g := rfl
theorem zNn (g) : zbd g = CF g := by
 have h : z6 g = zNA g := by
  funext x y
  unfold z6 zdg zNA zJ4
  rw [Factor.eta2, Factor.eta2]
 funext a b
 unfold zbd zbZ zdf
 rw [h]; rfl
theorem zP9 (g) : zba g = CF g := rfl
theorem zOS (g) : zbk g = CF g := rfl
theorem zAD (a b : Value) : zm6 a b = (true, cmpT (trV a) (trV b)) := by
 unfold zm6 zvo
 have h : (strings_Compare a.Text b.Text).2 = cmpT (trB a.Text) (trB b.Text) := by rw [← zMj]; rfl
 simp only [zqD, zvx, Wy.fin_bn, cond_true, h]
 rw [zpI _ (by simp)]
 simp only [Wy.fin_k, cond_true, trV, cmpT, cmpL, zow]
 rfl
theorem zCQ : ∀ n,
  (∀ d a b, zA d a → 10 * d ≤ n → zeU n a b = (true, cmpL (zcJ a) (zcJ b))) ∧
  (∀ d a b, zA d a → 10 * d ≤ n + 1 → zbs n a b = (true, cmpL (zcJ a) (zcJ b))) ∧
  (∀ d x y, zfi (zA d) x.Factors → 10 * d + 10 ≤ n + 2 → zhs n x y = (true, cmpT (zrA x) (zrA y))) ∧
  (∀ d x y, zfi (zA d) x.Factors → 10 * d + 10 ≤ n + 3 → zfV n x y = (true, cmpL (zbp x.Factors) (zbp y.Factors))) ∧
  (∀ d l l', zfi (zA d) l → 10 * d + 10 ≤ n + 4 → zby n l l' = (true, cmpL (zbp l) (zbp l'))) ∧
  (∀ d x y, zdL (zA d) x.Atom → 10 * d + 10 ≤ n + 5 → zeG n x y = (true, cmpT (zmc x) (zmc y))) ∧
  (∀ d x y, zdL (zA d) x → 10 * d + 10 ≤ n + 6 → zfP n x y = (true, cmpT (zdx x) (zdx y))) ∧
  (∀ d a b, a.length ≤ 1000000 → (∀ x ∈ a, zA d x) → 10 * d + 10 ≤ n + 7 → z7 n a b = (true, cmpL (zpo a) (zpo b))) ∧
  (∀ d a b, a.length ≤ 1000000 → (∀ x ∈ a, zA d x.Ann) → 10 * d + 10 ≤ n + 7 → zbj n a b = (true, cmpL (zf3 a) (zf3 b))) ∧
  (∀ d x y, zA d x.Ann → 10 * d + 10 ≤ n + 8 → zeh n x y = (true, cmpT (ze8 x) (ze8 y)))
 | 0 => by
  refine ⟨?_, ?_, ?_, ?_, ?_, ?_, ?_, ?_, ?_, ?_⟩
  ·intro d a b h hd; have : d = 0 := by omega
   subst this; exact h.elim
  ·intro d a b h hd; have : d = 0 := by omega
   subst this; exact h.elim
  all_goals (intros; omega)
 | n + 1 => by
  obtain ⟨h1, h2, h3, h4, h5, h6, h7, h8, h9, h10⟩ := zCQ n
  refine ⟨?_, ?_, ?_, ?_, ?_, ?_, ?_, ?_, ?_, ?_⟩
  ·intro d a b h hd
   rw [zBb]
   unfold zlL zny
   rw [Wy.fin_bn, h2 d a b h (by omega)]; rfl
  ·intro d a b h hd
   cases d with
   | zero => exact h.elim
   | succ d =>
    rw [zgR, zPh, zx0, zx0]
    exact zFX zrA _ a b h.1 fun x hx y hy => h3 d x y (h.2 x hx) (by omega)
  ·intro d x y h hd
   rw [zyj]
   unfold zjC zlJ
   rw [Wy.fin_bn, h4 d x y h (by omega)]
   simp only [cond_true, Wy.fin_bn, zvx]
   rw [zpI _ (by simp)]
   obtain ⟨c, l⟩ := x; obtain ⟨c', l'⟩ := y
   simp only [cond_true, Wy.fin_k, zow, zrA, cmpT, cmpL]
   rfl
  ·intro d x y h hd
   rw [zw3]
   unfold zit zkt
   rw [Wy.fin_bn, h5 d _ _ h (by omega)]; rfl
  ·intro d l l' h hd
   rw [zhi, zNn, zps, zps]
   exact zFX zmc _ l l' h.1 fun x hx y hy => h6 d x y (h.2 x hx) (by omega)
  ·intro d x y h hd
   rw [zvA]
   unfold zhI zjz
   rw [Atom.eta, Atom.eta, Wy.fin_bn, h7 d _ _ h (by omega)]
   simp only [cond_true, Wy.fin_bn, zqD]
   rw [zpI _ (by simp)]
   obtain ⟨c, l⟩ := x; obtain ⟨c', l'⟩ := y
   simp only [cond_true, Wy.fin_k, zow, zmc, cmpT, cmpL]
   rfl
  ·intro d x y h hd
   rw [zwV]
   unfold zis zkw
   simp only [cond_true, Wy.fin_bn, zqD, zAD, h8 d x.Args y.Args h.1.1 h.2.1 (by omega), h9 d x.Items y.Items h.1.2.1 (fun w hw => (h.2.2 w hw).2) (by omega)]
   rw [zpI _ (by simp)]
   obtain ⟨k, r, a, f, i, o, v⟩ := x; obtain ⟨k', r', a', f', i', o', v'⟩ := y
   simp only [cond_true, Wy.fin_k, zow, zdx, cmpT, cmpL]
   rfl
  ·intro d a b h0 h hd
   rw [zeo, zP9, zvt, zvt]
   exact zFX (fun x => TT.l (zcJ x)) _ a b h0 fun x hx y hy => by rw [h1 d x y (h x hx) (by omega)]; simp only [cmpT]
  ·intro d a b h0 h hd
   rw [zfg, zOS, znD, znD]
   exact zFX ze8 _ a b h0 fun x hx y hy => h10 d x y (h x hx) (by omega)
  ·intro d x y h hd
   rw [zwX]
   unfold ziv zkG
   simp only [cond_true, Wy.fin_bn, zAD, h1 d _ _ h (by omega)]
   rw [zpI _ (by simp)]
   obtain ⟨c, l⟩ := x; obtain ⟨c', l'⟩ := y
   simp only [cond_true, Wy.fin_k, zow, ze8, cmpT, cmpL]
   rfl
theorem zCP {d : Nat} {a : List Term} (h : zA d a) (hd : d ≤ 100) (b : List Term) : zrb a b = (true, cmpL (zcJ a) (zcJ b)) := (zCQ 1000).1 d a b h (by omega)
theorem zpF {d : Nat} {x : Term} (h : zfi (zA d) x.Factors) (hd : d ≤ 99) (y : Term) : zbz x y = (true, cmpL (zbp x.Factors) (zbp y.Factors)) := (zCQ 1000).2.2.2.1 d x y h (by omega)
theorem zpA {d : Nat} {x : Atom} (h : zdL (zA d) x) (hd : d ≤ 99) (y : Atom) : zht x y = (true, cmpT (zdx x) (zdx y)) := (zCQ 1000).2.2.2.2.2.2.1 d x y h (by omega)
theorem zyr {d : Nat} {x : Weighted} (h : zA d x.Ann) (hd : d ≤ 99) (y : Weighted) : zbm x y = (true, cmpT (ze8 x) (ze8 y)) := (zCQ 1000).2.2.2.2.2.2.2.2.2 d x y h (by omega)
theorem zv9 {d : Nat} {a : List Term} (h : zA d a) (hd : d ≤ 100) (b : List Term) : zb0 a b = (true, decide (a = b)) := by
 unfold zb0 zrz
 rw [Wy.fin_bn, zCP h hd]
 simp only [cond_true, Wy.fin_k]
 congr 1
 by_cases e : a = b
 ·subst e; rw [zFF]; simp
 ·have : cmpL (zcJ a) (zcJ b) ≠ 0 := fun h => e (zyd _ _ (zzI _ _ h))
  simp [e, this]
def zCH (a : Int) (b : Int) : Wy0 (Int) := .i (decide (a < b)) (.k (-1 : Int)) (.i (decide (a > b)) (.k 1) (.k 0))
def zcT (a : Int) (b : Int) : Bool × Int := (zCH a b).fin default
abbrev ztI := List Term × List Term × Int × Unit
abbrev ttTref05Compare1 := Int ⊕ (List Term × List Term)
def zFd (zcP : List Factor → List Factor → Bool × Int) (a : List Term) (b : List Term) (i : Int) : Wy ztI (Unit) ttTref05Compare1 := .i (decide (i < Int.ofNat a.length)) (.i (decide (i < Int.ofNat b.length)) (.i (decide (0 ≤ i) && decide (i < Int.ofNat a.length)) (.i (decide (0 ≤ i) && decide (i < Int.ofNat b.length)) (.bn (zcP (a.getD i.toNat default).Factors (b.getD i.toNat default).Factors) fun r1 => .i (r1 != 0) (.k (.inl (r1))) (.i (decide (0 ≤ i) && decide (i < Int.ofNat a.length)) (.i (decide (0 ≤ i) && decide (i < Int.ofNat b.length)) (.bn (zcT (a.getD i.toNat default).Coeff (b.getD i.toNat default).Coeff) fun r0 => .i (r0 != 0) (.k (.inl (r0))) (.h (a, b, (IntKind.i64.wrap (i + 1)), ()) ())) .d) .d)) .d) .d) (.k (.inr (a, b)))) (.k (.inr (a, b)))
def zEP (zcP : List Factor → List Factor → Bool × Int) (x : ztI) (y : Unit) : Wy ztI (Unit) ttTref05Compare1 := zFd zcP x.1 x.2.1 x.2.2.1
def zFv (zcP : List Factor → List Factor → Bool × Int) (n : Nat) (a : List Term) (b : List Term) (i : Int) : Bool × ttTref05Compare1 := zN (zEP zcP) (.inl default) n (a, b, i, ()) ()
def zGf (zcP : List Factor → List Factor → Bool × Int) (a : List Term) (b : List Term) : Wy0 (Int) := .bn (zFv zcP (a.length + b.length + Int.toNat 0 + 1) a b 0) fun r5 => .i (isL r5) (.k (getL r5)) (.bn (zcT (Int.ofNat (getR r5).1.length) (Int.ofNat (getR r5).2.length)) fun r4 => .k r4)
def zvP (zcP : List Factor → List Factor → Bool × Int) (a : List Term) (b : List Term) : Bool × Int := (zGf zcP a b).fin default
def zFk (less : Bool) : Wy0 (Int) := .i (less) (.k (-1 : Int)) (.k 1)
def zzy (less : Bool) : Bool × Int := (zFk less).fin default
def zBV (a : Value) (b : Value) : Wy0 (Int) := .i (a.Kind != b.Kind) (.bn (zzy (decide (a.Kind < b.Kind))) fun r0 => .k r0) (.i (a.Int != b.Int) (.bn (zzy (decide (a.Int < b.Int))) fun r1 => .k r1) (.i (!a.Text.toList == b.Text.toList) (.bn (zzy (Op.bytesLess a.Text.toList b.Text.toList)) fun r2 => .k r2) (.k 0)))
def zpH (a : Value) (b : Value) : Bool × Int := (zBV a b).fin default
def zxL (a : RowID) (b : RowID) : Wy0 (Int) := .bn (zcT a.Table b.Table) fun r1 => .i (r1 != 0) (.k r1) (.bn (zcT a.Seq b.Seq) fun r0 => .k r0)
def ztJ (a : RowID) (b : RowID) : Bool × Int := (zxL a b).fin default
abbrev zpa := Unit × Unit × Int × Unit
abbrev zo7 := Atom × Atom × Unit
abbrev ttTref05CompareAtom2 := Int ⊕ (Atom × Atom)
def znr (zdq : List Weighted → List Weighted → Bool × Int) (zbG : List Term → List Term → Bool × Int) (i : Int) (a : Atom) (b : Atom) : Wy zpa zo7 ttTref05CompareAtom2 := .i (decide (i < Int.ofNat a.Args.length)) (.i (decide (i < Int.ofNat b.Args.length)) (.i (decide (0 ≤ i) && decide (i < Int.ofNat a.Args.length)) (.i (decide (0 ≤ i) && decide (i < Int.ofNat b.Args.length)) (.bn (zbG (a.Args.getD i.toNat default) (b.Args.getD i.toNat default)) fun r0 => .i (r0 != 0) (.k (.inl (r0))) (.h ((), (), (IntKind.i64.wrap (i + 1)), ()) (a, b, ()))) .d) .d) (.k (.inr (a, b)))) (.k (.inr (a, b)))
def zCm (zdq : List Weighted → List Weighted → Bool × Int) (zbG : List Term → List Term → Bool × Int) (x : zpa) (y : zo7) : Wy zpa zo7 ttTref05CompareAtom2 := znr zdq zbG x.2.2.1 y.1 y.2.1
def znz (zdq : List Weighted → List Weighted → Bool × Int) (zbG : List Term → List Term → Bool × Int) (n : Nat) (i : Int) (a : Atom) (b : Atom) : Bool × ttTref05CompareAtom2 := zN (zCm zdq zbG) (.inl default) n ((), (), i, ()) (a, b, ())
def zuj (zdq : List Weighted → List Weighted → Bool × Int) (zbG : List Term → List Term → Bool × Int) (a : Atom) (b : Atom) : Wy0 (Int) := .bn (zcT a.Kind b.Kind) fun r9 => .i (r9 != 0) (.k r9) (.bn (ztJ a.Row b.Row) fun r8 => .i (r8 != 0) (.k r8) (.bn (znz zdq zbG ((Int.toNat 0 + 1) + (Atom.mk a.Kind a.Row a.Args a.Func a.Items a.Op a.Bound).Args.length + (Atom.mk a.Kind a.Row a.Args a.Func a.Items a.Op a.Bound).Items.length + (Atom.mk b.Kind b.Row b.Args b.Func b.Items b.Op b.Bound).Args.length + (Atom.mk b.Kind b.Row b.Args b.Func b.Items b.Op b.Bound).Items.length) 0 (Atom.mk a.Kind a.Row a.Args a.Func a.Items a.Op a.Bound) (Atom.mk b.Kind b.Row b.Args b.Func b.Items b.Op b.Bound)) fun r7 => .i (isL r7) (.k (getL r7)) (.bn (zcT (Int.ofNat (getR r7).1.Args.length) (Int.ofNat (getR r7).2.Args.length)) fun r6 => .i (r6 != 0) (.k r6) (.bn (zcT (getR r7).1.Func (getR r7).2.Func) fun r5 => .i (r5 != 0) (.k r5) (.bn (zdq (getR r7).1.Items (getR r7).2.Items) fun r4 => .i (r4 != 0) (.k r4) (.bn (zcT (getR r7).1.Op (getR r7).2.Op) fun r3 => .i (r3 != 0) (.k r3) (.bn (zpH (getR r7).1.Bound (getR r7).2.Bound) fun r2 => .k r2)))))))
def zmC (zdq : List Weighted → List Weighted → Bool × Int) (zbG : List Term → List Term → Bool × Int) (a : Atom) (b : Atom) : Bool × Int := (zuj zdq zbG a b).fin default
abbrev zmO := List Factor × List Factor × Int × Unit
abbrev ttTref05CompareFactors1 := Int ⊕ (List Factor × List Factor)
def zqe (zdQ : Atom → Atom → Bool × Int) (a : List Factor) (b : List Factor) (i : Int) : Wy zmO (Unit) ttTref05CompareFactors1 := .i (decide (i < Int.ofNat a.length)) (.i (decide (i < Int.ofNat b.length)) (.i (decide (0 ≤ i) && decide (i < Int.ofNat a.length)) (.i (decide (0 ≤ i) && decide (i < Int.ofNat b.length)) (.bn (zdQ (Atom.mk (a.getD i.toNat default).Atom.Kind (a.getD i.toNat default).Atom.Row (a.getD i.toNat default).Atom.Args (a.getD i.toNat default).Atom.Func (a.getD i.toNat default).Atom.Items (a.getD i.toNat default).Atom.Op (a.getD i.toNat default).Atom.Bound) (Atom.mk (b.getD i.toNat default).Atom.Kind (b.getD i.toNat default).Atom.Row (b.getD i.toNat default).Atom.Args (b.getD i.toNat default).Atom.Func (b.getD i.toNat default).Atom.Items (b.getD i.toNat default).Atom.Op (b.getD i.toNat default).Atom.Bound)) fun r1 => .i (r1 != 0) (.k (.inl (r1))) (.i (decide (0 ≤ i) && decide (i < Int.ofNat a.length)) (.i (decide (0 ≤ i) && decide (i < Int.ofNat b.length)) (.bn (zcT (a.getD i.toNat default).Exp (b.getD i.toNat default).Exp) fun r0 => .i (r0 != 0) (.k (.inl (r0))) (.h (a, b, (IntKind.i64.wrap (i + 1)), ()) ())) .d) .d)) .d) .d) (.k (.inr (a, b)))) (.k (.inr (a, b)))
def zly (zdQ : Atom → Atom → Bool × Int) (x : zmO) (y : Unit) : Wy zmO (Unit) ttTref05CompareFactors1 := zqe zdQ x.1 x.2.1 x.2.2.1
def zql (zdQ : Atom → Atom → Bool × Int) (n : Nat) (a : List Factor) (b : List Factor) (i : Int) : Bool × ttTref05CompareFactors1 := zN (zly zdQ) (.inl default) n (a, b, i, ()) ()
def zrF (zdQ : Atom → Atom → Bool × Int) (a : List Factor) (b : List Factor) : Wy0 (Int) := .bn (zql zdQ (a.length + b.length + Int.toNat 0 + 1) a b 0) fun r5 => .i (isL r5) (.k (getL r5)) (.bn (zcT (Int.ofNat (getR r5).1.length) (Int.ofNat (getR r5).2.length)) fun r4 => .k r4)
def zkb (zdQ : Atom → Atom → Bool × Int) (a : List Factor) (b : List Factor) : Bool × Int := (zrF zdQ a b).fin default
abbrev zoa := List Weighted × List Weighted × Int × Unit
abbrev ttTref05CompareItems1 := Int ⊕ (List Weighted × List Weighted)
def zA8 (zbG : List Term → List Term → Bool × Int) (a : List Weighted) (b : List Weighted) (i : Int) : Wy zoa (Unit) ttTref05CompareItems1 := .i (decide (i < Int.ofNat a.length)) (.i (decide (i < Int.ofNat b.length)) (.i (decide (0 ≤ i) && decide (i < Int.ofNat a.length)) (.i (decide (0 ≤ i) && decide (i < Int.ofNat b.length)) (.bn (zpH (a.getD i.toNat default).Value (b.getD i.toNat default).Value) fun r1 => .i (r1 != 0) (.k (.inl (r1))) (.i (decide (0 ≤ i) && decide (i < Int.ofNat a.length)) (.i (decide (0 ≤ i) && decide (i < Int.ofNat b.length)) (.bn (zbG (a.getD i.toNat default).Ann (b.getD i.toNat default).Ann) fun r0 => .i (r0 != 0) (.k (.inl (r0))) (.h (a, b, (IntKind.i64.wrap (i + 1)), ()) ())) .d) .d)) .d) .d) (.k (.inr (a, b)))) (.k (.inr (a, b)))
def zBn (zbG : List Term → List Term → Bool × Int) (x : zoa) (y : Unit) : Wy zoa (Unit) ttTref05CompareItems1 := zA8 zbG x.1 x.2.1 x.2.2.1
def zBk (zbG : List Term → List Term → Bool × Int) (n : Nat) (a : List Weighted) (b : List Weighted) (i : Int) : Bool × ttTref05CompareItems1 := zN (zBn zbG) (.inl default) n (a, b, i, ()) ()
def zCs (zbG : List Term → List Term → Bool × Int) (a : List Weighted) (b : List Weighted) : Wy0 (Int) := .bn (zBk zbG (a.length + b.length + Int.toNat 0 + 1) a b 0) fun r5 => .i (isL r5) (.k (getL r5)) (.bn (zcT (Int.ofNat (getR r5).1.length) (Int.ofNat (getR r5).2.length)) fun r4 => .k r4)
def zpf (zbG : List Term → List Term → Bool × Int) (a : List Weighted) (b : List Weighted) : Bool × Int := (zCs zbG a b).fin default
def ziM : Nat → (List Term → List Term → Bool × Int) × (List Factor → List Factor → Bool × Int) × (Atom → Atom → Bool × Int) × (List Weighted → List Weighted → Bool × Int)
 | 0 => (fun _ _ => (false, default), fun _ _ => (false, default), fun _ _ => (false, default), fun _ _ => (false, default))
 | n + 1 => (zvP ((ziM n).2.1), zkb ((ziM n).2.2.1), zmC ((ziM n).2.2.2) ((ziM n).1), zpf ((ziM n).1))
def zne (n : Nat) : List Term → List Term → Bool × Int := (ziM n).1
def zj9 (n : Nat) : List Factor → List Factor → Bool × Int := (ziM n).2.1
def zmz (n : Nat) : Atom → Atom → Bool × Int := (ziM n).2.2.1
def zlM (n : Nat) : List Weighted → List Weighted → Bool × Int := (ziM n).2.2.2
theorem zFK (n : Nat) : zne (n + 1) = zvP (zj9 n) := rfl
theorem zzq (n : Nat) : zj9 (n + 1) = zkb (zmz n) := rfl
theorem zCf (n : Nat) : zmz (n + 1) = zmC (zlM n) (zne n) := rfl
theorem zBq (n : Nat) : zlM (n + 1) = zpf (zne n) := rfl
def zEo : List Term → List Term → Bool × Int := zne 1000
def zlt : List Factor → List Factor → Bool × Int := zj9 1000
def zlh : Atom → Atom → Bool × Int := zmz 1000
def zyb : List Weighted → List Weighted → Bool × Int := zlM 1000
def zFl (a : List Term) (b : List Term) : Wy0 (Bool) := .bn (zEo a b) fun r0 => .k (r0 == 0)
def zvO (a : List Term) (b : List Term) : Bool × Bool := (zFl a b).fin default
theorem zGD (s : ByteArray) : ∀ (n i : Nat) (r : List UInt8), s.size ≤ i + n → ByteArray.toList.loop s i r = r.reverse ++ s.data.toList.drop i
 | 0, i, r, h => by
  rw [ByteArray.toList.loop, if_neg (by omega), List.drop_eq_nil_of_le (by rw [← Lib.size_eq]; omega), List.append_nil]
 | n + 1, i, r, h => by
  rw [ByteArray.toList.loop]
  by_cases hi : i < s.size
  ·have hi' : i < s.data.toList.length := by rw [← Lib.size_eq]; exact hi
   rw [if_pos hi, zGD s n (i + 1) _ (by omega), List.drop_eq_getElem_cons hi', List.reverse_cons, List.append_assoc]
   congr 1
   have : s.get! i = s.data.toList[i] := by
    have h' : i < s.data.size := hi
    show s.data[i]! = s.data.toList[i]
    rw [getElem!_pos s.data i h']; rfl
   rw [this]; rfl
  ·rw [if_neg hi, List.drop_eq_nil_of_le (by rw [← Lib.size_eq]; omega), List.append_nil]
theorem zBN (s : ByteArray) : s.toList = s.data.toList := by
 rw [ByteArray.toList, zGD s s.size 0 [] (by omega)]; rfl
theorem zxl {s t : ByteArray} (h : s.data.toList = t.data.toList) : s = t := by
 cases s; cases t
 congr 1
 exact Array.toList_inj.1 h
theorem zM5 (s t : ByteArray) : (s.toList == t.toList) = decide (s.data.toList = t.data.toList) := by
 rw [zBN, zBN]
 cases hb : (s.data.toList == t.data.toList) with
 | true => rw [decide_eq_true (beq_iff_eq.1 hb)]
 | false => rw [decide_eq_false (fun h => by rw [beq_iff_eq.2 h] at hb; cases hb)]
theorem zES (s t : ByteArray) : (s.toList == t.toList) = decide (s = t) := by
 rw [zM5]
 by_cases h : s = t
 ·rw [decide_eq_true h, decide_eq_true (by rw [h])]
 ·rw [decide_eq_false h, decide_eq_false fun e => h (zxl e)]
theorem bne0 (z w : Int) : (z != w) = !decide (z = w) := by by_cases h : z = w <;> simp [h]
theorem zEt : ∀ a b : List UInt8, Op.bytesLess a b = decide (Lib.compareBytes a b < 0)
 | [], [] => by simp [Op.bytesLess, Lib.compareBytes]
 | _ :: _, [] => by simp [Op.bytesLess, Lib.compareBytes]
 | [], _ :: _ => by simp [Op.bytesLess, Lib.compareBytes]
 | x :: a, y :: b => by
  simp only [Op.bytesLess, Lib.compareBytes]
  by_cases p : x < y
  ·simp [p]
  ·by_cases q : y < x
   ·have hne : ¬ x = y := fun e => by subst e; exact p q
    simp [p, q, hne]
   ·have he : x = y := UInt8.toNat_inj.1 (by rw [UInt8.lt_iff_toNat_lt] at p q; omega)
    subst he
    simp [p, zEt a b]
theorem zAF (a b : Value) : zpH a b = (true, cmpT (trV a) (trV b)) := by
 unfold zpH zBV zzy zFk
 rw [zES, zBN, zBN, zEt, zMj]
 simp only [trV, cmpT, cmpL, cmpI]
 simp only [Wy.fin_i, Wy.fin_bn, Wy.fin_k, cond_true, bne0]
 by_cases h1 : a.Kind = b.Kind
 ·by_cases h2 : a.Int = b.Int
  ·by_cases h3 : a.Text = b.Text
   ·simp [h1, h2, h3, zJw]
   ·have h4 : cmpT (trB a.Text) (trB b.Text) ≠ 0 := fun e => by
     have := zyo _ _ (TT.l.inj (zwG _ _ e))
     exact h3 (zxl this)
    have h5 := zLp (trB a.Text) (trB b.Text)
    simp only [trB, cmpT] at h4 h5
    simp only [trB, cmpT]
    rcases h5 with h5 | h5 | h5
    ·simp [h1, h2, h3, h5]
    ·exact absurd h5 h4
    ·simp [h1, h2, h3, h5]
  ·by_cases h3 : a.Int < b.Int
   ·simp [h1, h2, h3]
   ·simp [h1, h2, h3, show b.Int < a.Int by omega]
 ·by_cases h3 : a.Kind < b.Kind
  ·simp [h1, h3]
  ·simp [h1, h3, show b.Kind < a.Kind by omega]
theorem zno (x y : Int) : zcT x y = (true, cmpI x y) := by
 unfold zcT zCH cmpI
 by_cases h1 : x < y
 ·simp [h1, Wy.fin_i, Wy.fin_k]
 ·by_cases h2 : y < x <;> simp [h1, h2, Wy.fin_i, Wy.fin_k]
theorem zEN (x y : RowID) : ztJ x y = (true, if cmpI x.Table y.Table = 0 then cmpI x.Seq y.Seq else cmpI x.Table y.Table) := by
 unfold ztJ zxL
 simp only [zno, Wy.fin_i, Wy.fin_bn, Wy.fin_k, cond_true, bne0]
 by_cases h : cmpI x.Table y.Table = 0
 ·simp [h]
 ·simp [h]
section
variable {α : Type} [Inhabited α]
def zJ9 (p q : α → α → Bool × Int) (a : List α) (b : List α) (i : Int) : Wy (List α × List α × Int × Unit) (Unit) (Int ⊕ (List α × List α)) := .i (decide (i < Int.ofNat a.length)) (.i (decide (i < Int.ofNat b.length)) (.i (decide ((0 : Int) ≤ i) && decide (i < Int.ofNat a.length)) (.i (decide ((0 : Int) ≤ i) && decide (i < Int.ofNat b.length)) (.bn (p (a.getD i.toNat default) (b.getD i.toNat default)) fun r1 => .i (r1 != (0 : Int)) (.k (.inl (r1))) (.i (decide ((0 : Int) ≤ i) && decide (i < Int.ofNat a.length)) (.i (decide ((0 : Int) ≤ i) && decide (i < Int.ofNat b.length)) (.bn (q (a.getD i.toNat default) (b.getD i.toNat default)) fun r0 => .i (r0 != (0 : Int)) (.k (.inl (r0))) (.h (a, b, (IntKind.i64.wrap (i + (1 : Int))), ()) ())) .d) .d)) .d) .d) (.k (.inr (a, b)))) (.k (.inr (a, b)))
def zMN (p q : α → α → Bool × Int) (x : List α × List α × Int × Unit) (y : Unit) : Wy (List α × List α × Int × Unit) (Unit) (Int ⊕ (List α × List α)) := zJ9 p q x.1 x.2.1 x.2.2.1
def zM8 (p q : α → α → Bool × Int) (n : Nat) (a : List α) (b : List α) (i : Int) : Bool × (Int ⊕ (List α × List α)) := zN (zMN p q) (.inl default) n (a, b, i, ()) ()
def RG (p q : α → α → Bool × Int) (a b : List α) : Bool × Int := (.bn (zM8 p q (a.length + b.length + Int.toNat (0 : Int) + (1 : Nat)) a b (0 : Int)) fun r5 => .i (isL r5) (.k (getL r5)) (.bn (zcT (Int.ofNat (getR r5).fst.length) (Int.ofNat (getR r5).snd.length)) fun r4 => .k r4) : Wy0 Int).fin default
theorem zMr (p q : α → α → Bool × Int) (c1 c2 : α → α → Int) (a b : List α) (ha : a.length ≤ 1000000) (hp : ∀ x ∈ a, ∀ y ∈ b, p x y = (true, c1 x y)) (hq : ∀ x ∈ a, ∀ y ∈ b, q x y = (true, c2 x y)) : ∀ (n i : Nat), a.length < i + n → i ≤ a.length → i ≤ b.length →
  ∃ r, zM8 p q n a b i = (true, r) ∧ ((r = .inl (lexG (fun x y => if c1 x y = 0 then c2 x y else c1 x y) (a.drop i) (b.drop i))) ∨ (r = .inr (a, b) ∧ lexG (fun x y => if c1 x y = 0 then c2 x y else c1 x y) (a.drop i) (b.drop i) = cmpI a.length b.length))
 | 0, i, h, h2, h3 => by omega
 | n + 1, i, h, h2, h3 => by
  show ∃ r, (zJ9 p q a b i).ev (fun x y => zM8 p q n x.1 x.2.1 x.2.2.1) (fun r => (true, r)) (false, .inl default) = (true, r) ∧ _
  unfold zJ9
  by_cases hi : i < a.length
  ·by_cases hi' : i < b.length
   ·simp only [Wy.ev_i, Wy.ev_k, Wy.ev_h, Wy.ev_bn, Wy.ev_d, tT, hi, hi', hp _ (zC hi) _ (zC hi'), hq _ (zC hi) _ (zC hi')]
    rw [zbF hi, zbF hi', zY (by omega)]
    simp only [lexG]
    generalize c1 (a.getD i default) (b.getD i default) = z1
    generalize c2 (a.getD i default) (b.getD i default) = z2
    by_cases hx : z1 = 0
    ·have e : (z1 != 0) = false := by simp [hx]
     by_cases hx2 : z2 = 0
     ·have e2 : (z2 != 0) = false := by simp [hx2]
      simp only [e, e2, cond_false, hx, hx2, if_true]
      exact zMr p q c1 c2 a b ha hp hq n (i + 1) (by omega) (by omega) (by omega)
     ·have e2 : (z2 != 0) = true := by simp [hx2]
      simp only [e, e2, cond_false, cond_true, hx, hx2, if_true, if_false]
      exact ⟨_, rfl, .inl rfl⟩
    ·have e : (z1 != 0) = true := by simp [hx]
     simp only [e, cond_true, hx, if_false]
     exact ⟨_, rfl, .inl rfl⟩
   ·simp only [Wy.ev_i, Wy.ev_k, Wy.ev_h, Wy.ev_bn, Wy.ev_d, tT, hi, hi']
    refine ⟨_, rfl, .inr ⟨rfl, ?_⟩⟩
    rw [zbF hi, zeQ hi']
    unfold cmpI; rw [if_neg (by omega), if_pos (by omega)]; rfl
  ·simp only [Wy.ev_i, Wy.ev_k, Wy.ev_h, Wy.ev_bn, Wy.ev_d, tT, hi]
   refine ⟨_, rfl, .inr ⟨rfl, ?_⟩⟩
   rw [zeQ hi]
   by_cases hi' : i < b.length
   ·rw [zbF hi']; unfold cmpI; rw [if_pos (by omega)]; rfl
   ·rw [zeQ hi']; unfold cmpI; rw [if_neg (by omega), if_neg (by omega)]; rfl
theorem zRH (p q : α → α → Bool × Int) (c1 c2 : α → α → Int) (a b : List α) (ha : a.length ≤ 1000000) (hp : ∀ x ∈ a, ∀ y ∈ b, p x y = (true, c1 x y)) (hq : ∀ x ∈ a, ∀ y ∈ b, q x y = (true, c2 x y)) : RG p q a b = (true, lexG (fun x y => if c1 x y = 0 then c2 x y else c1 x y) a b) := by
 unfold RG
 obtain ⟨r, h1, h2⟩ := zMr p q c1 c2 a b ha hp hq (a.length + b.length + Int.toNat 0 + 1) 0 (by simp; omega) (by omega) (by omega)
 rw [show ((0 : Nat) : Int) = (0 : Int) from rfl] at h1
 rw [Wy.fin_bn, h1]
 simp only [List.drop_zero] at h2
 rcases h2 with rfl | ⟨rfl, h2⟩
 ·rfl
 ·rw [h2]
  simp only [Wy.fin_i, Wy.fin_k, Wy.fin_bn, zno, tT, isL, getR]
end
theorem zIo {α : Type} [Inhabited α] (e : α → TT) (p q : α → α → Bool × Int) (c1 c2 : α → α → Int) (a b : List α) (ha : a.length ≤ 1000000) (hp : ∀ x ∈ a, ∀ y ∈ b, p x y = (true, c1 x y)) (hq : ∀ x ∈ a, ∀ y ∈ b, q x y = (true, c2 x y))
  (hc : ∀ x y, (if c1 x y = 0 then c2 x y else c1 x y) = cmpT (e x) (e y)) : RG p q a b = (true, cmpL (a.map e) (b.map e)) := by
 rw [zRH p q c1 c2 a b ha hp hq, zBs e a b fun x _ y _ => hc x y]
theorem zPi (g) : zvP g = RG (fun x y => g x.Factors y.Factors) (fun x y => zcT x.Coeff y.Coeff) := rfl
theorem zNz (g) : zkb g = RG (fun x y => g x.Atom y.Atom) (fun x y => zcT x.Exp y.Exp) := by
 have h : zly g = zMN (fun x y => g x.Atom y.Atom) (fun x y => zcT x.Exp y.Exp) := by
  funext x y
  unfold zly zqe zMN zJ9
  rw [Atom.eta, Atom.eta]
 funext a b
 unfold zkb zrF zql
 rw [h]; rfl
theorem zO7 (g) : zpf g = RG (fun x y => zpH x.Value y.Value) (fun x y => g x.Ann y.Ann) := rfl
theorem zJA (gI) (g : List Term → List Term → Bool × Int) (a b : Atom) (ha : a.Args.length ≤ 1000000) (hg : ∀ x ∈ a.Args, ∀ y ∈ b.Args, g x y = (true, cmpL (zcJ x) (zcJ y))) : ∀ (n i : Nat), a.Args.length < i + n → i ≤ a.Args.length → i ≤ b.Args.length →
  ∃ r, znz gI g n i a b = (true, r) ∧ ((r = .inl (lexG (fun x y => cmpL (zcJ x) (zcJ y)) (a.Args.drop i) (b.Args.drop i)) ∧ lexG (fun x y => cmpL (zcJ x) (zcJ y)) (a.Args.drop i) (b.Args.drop i) ≠ 0) ∨ (r = .inr (a, b) ∧ lexG (fun x y => cmpL (zcJ x) (zcJ y)) (a.Args.drop i) (b.Args.drop i) = cmpI a.Args.length b.Args.length))
 | 0, i, h, h2, h3 => by omega
 | n + 1, i, h, h2, h3 => by
  show ∃ r, (znr gI g i a b).ev (fun x y => znz gI g n x.2.2.1 y.1 y.2.1) (fun r => (true, r)) (false, .inl default) = (true, r) ∧ _
  unfold znr
  by_cases hi : i < a.Args.length
  ·by_cases hi' : i < b.Args.length
   ·simp only [Wy.ev_i, Wy.ev_k, Wy.ev_h, Wy.ev_bn, Wy.ev_d, tT, hi, hi', hg _ (zC hi) _ (zC hi')]
    rw [zbF hi, zbF hi', zY (by omega)]
    simp only [lexG]
    generalize cmpL (zcJ (a.Args.getD i default)) (zcJ (b.Args.getD i default)) = z1
    by_cases hx : z1 = 0
    ·have e : (z1 != 0) = false := by simp [hx]
     simp only [e, cond_false, hx, if_true]
     exact zJA gI g a b ha hg n (i + 1) (by omega) (by omega) (by omega)
    ·have e : (z1 != 0) = true := by simp [hx]
     simp only [e, cond_true, hx, if_false]
     exact ⟨_, rfl, .inl ⟨rfl, hx⟩⟩
   ·simp only [Wy.ev_i, Wy.ev_k, Wy.ev_h, Wy.ev_bn, Wy.ev_d, tT, hi, hi']
    refine ⟨_, rfl, .inr ⟨rfl, ?_⟩⟩
    rw [zbF hi, zeQ hi']
    unfold cmpI; rw [if_neg (by omega), if_pos (by omega)]; rfl
  ·simp only [Wy.ev_i, Wy.ev_k, Wy.ev_h, Wy.ev_bn, Wy.ev_d, tT, hi]
   refine ⟨_, rfl, .inr ⟨rfl, ?_⟩⟩
   rw [zeQ hi]
   by_cases hi' : i < b.Args.length
   ·rw [zbF hi']; unfold cmpI; rw [if_pos (by omega)]; rfl
   ·rw [zeQ hi']; unfold cmpI; rw [if_neg (by omega), if_neg (by omega)]; rfl
theorem zQC (gI) (g : List Term → List Term → Bool × Int) (x y : Atom) (ha : x.Args.length ≤ 1000000) (hg : ∀ a ∈ x.Args, ∀ b ∈ y.Args, g a b = (true, cmpL (zcJ a) (zcJ b)))
  (hI : gI x.Items y.Items = (true, cmpL (zf3 x.Items) (zf3 y.Items))) : zmC gI g x y = (true, cmpT (zdx x) (zdx y)) := by
 unfold zmC zuj
 rw [Atom.eta, Atom.eta]
 obtain ⟨r, h1, h2⟩ := zJA gI g x y ha hg (Int.toNat 0 + 1 + x.Args.length + x.Items.length + y.Args.length + y.Items.length) 0 (by omega) (by omega) (by omega)
 rw [show ((0 : Nat) : Int) = (0 : Int) from rfl] at h1
 simp only [List.drop_zero] at h2
 rw [zBs (fun a => TT.l (zcJ a)) x.Args y.Args (fun a _ b _ => by simp only [cmpT]), ← zvt, ← zvt] at h2
 simp only [zno, zEN, Wy.fin_bn, Wy.fin_i, Wy.fin_k, cond_true, h1]
 obtain ⟨k, r0, a, f, i, o, v⟩ := x; obtain ⟨k', r', a', f', i', o', v'⟩ := y
 simp only [zdx, cmpT, cmpL, bne0] at *
 by_cases e1 : cmpI k k' = 0
 rotate_left
 ·simp [e1]
 by_cases e2 : cmpI r0.Table r'.Table = 0
 rotate_left
 ·simp [e1, e2]
 by_cases e3 : cmpI r0.Seq r'.Seq = 0
 rotate_left
 ·simp [e1, e2, e3]
 rcases h2 with ⟨rfl, h2⟩ | ⟨rfl, h2⟩
 ·simp [e1, e2, e3, h2, isL, getL]
 simp only [e1, e2, e3, h2, isL, getR, tT, hI, if_true]
 by_cases e4 : cmpI (a.length : Int) (a'.length : Int) = 0
 rotate_left
 ·simp [e4]
 by_cases e5 : cmpI f f' = 0
 rotate_left
 ·simp [e4, e5]
 by_cases e6 : cmpL (zf3 i) (zf3 i') = 0
 rotate_left
 ·simp [e4, e5, e6]
 by_cases e7 : cmpI o o' = 0
 rotate_left
 ·simp [e4, e5, e6, e7]
 simp [e4, e5, e6, e7, zAF]
theorem zzY : ∀ n,
  (∀ d a b, zA d a → 10 * d ≤ n → zne n a b = (true, cmpL (zcJ a) (zcJ b))) ∧
  (∀ d l l', zfi (zA d) l → 10 * d + 10 ≤ n + 1 → zj9 n l l' = (true, cmpL (zbp l) (zbp l'))) ∧
  (∀ d x y, zdL (zA d) x → 10 * d + 10 ≤ n + 2 → zmz n x y = (true, cmpT (zdx x) (zdx y))) ∧
  (∀ d a b, a.length ≤ 1000000 → (∀ x ∈ a, zA d x.Ann) → 10 * d + 10 ≤ n + 3 → zlM n a b = (true, cmpL (zf3 a) (zf3 b)))
 | 0 => by
  refine ⟨?_, ?_, ?_, ?_⟩
  ·intro d a b h hd; have : d = 0 := by omega
   subst this; exact h.elim
  all_goals (intros; omega)
 | n + 1 => by
  obtain ⟨h1, h2, h3, h4⟩ := zzY n
  refine ⟨?_, ?_, ?_, ?_⟩
  ·intro d a b h hd
   cases d with
   | zero => exact h.elim
   | succ d =>
    rw [zFK, zPi, zx0, zx0]
    exact zIo zrA _ _ (fun x y => cmpL (zbp x.Factors) (zbp y.Factors)) (fun x y => cmpI x.Coeff y.Coeff) a b h.1 (fun x hx y hy => h2 d _ _ (h.2 x hx) (by omega)) (fun x _ y _ => zno _ _) fun x y => by
     obtain ⟨c, l⟩ := x; obtain ⟨c', l'⟩ := y
     simp only [zrA, cmpT, cmpL]
     by_cases e : cmpI c c' = 0 <;> simp [e]
  ·intro d l l' h hd
   rw [zzq, zNz, zps, zps]
   exact zIo zmc _ _ (fun x y => cmpT (zdx x.Atom) (zdx y.Atom)) (fun x y => cmpI x.Exp y.Exp) l l' h.1 (fun x hx y hy => h3 d _ _ (h.2 x hx) (by omega)) (fun x _ y _ => zno _ _) fun x y => by
    obtain ⟨c, l⟩ := x; obtain ⟨c', l'⟩ := y
    simp only [zmc, cmpT, cmpL]
    by_cases e : cmpI l l' = 0 <;> simp [e]
  ·intro d x y h hd
   rw [zCf]
   exact zQC _ _ x y h.1.1 (fun a ha b _ => h1 d a b (h.2.1 a ha) (by omega)) (h4 d _ _ h.1.2.1 (fun w hw => (h.2.2 w hw).2) (by omega))
  ·intro d a b h0 h hd
   rw [zBq, zO7, znD, znD]
   exact zIo ze8 _ _ (fun x y => cmpT (trV x.Value) (trV y.Value)) (fun x y => cmpL (zcJ x.Ann) (zcJ y.Ann)) a b h0 (fun x _ y _ => zAF _ _) (fun x hx y _ => h1 d _ _ (h x hx) (by omega)) fun x y => by
    obtain ⟨c, l⟩ := x; obtain ⟨c', l'⟩ := y
    simp only [ze8, cmpT, cmpL]
    by_cases e : cmpL (zcJ l) (zcJ l') = 0 <;> simp [e]
theorem zG1 {d : Nat} {a : List Term} (h : zA d a) (hd : d ≤ 100) (b : List Term) : zEo a b = (true, cmpL (zcJ a) (zcJ b)) := (zzY 1000).1 d a b h (by omega)
theorem zm1 {d : Nat} {l : List Factor} (h : zfi (zA d) l) (hd : d ≤ 99) (l' : List Factor) : zlt l l' = (true, cmpL (zbp l) (zbp l')) := (zzY 1000).2.1 d l l' h (by omega)
theorem zo4 {d : Nat} {x : Atom} (h : zdL (zA d) x) (hd : d ≤ 99) (y : Atom) : zlh x y = (true, cmpT (zdx x) (zdx y)) := (zzY 1000).2.2.1 d x y h (by omega)
theorem zCN {d : Nat} {a : List Weighted} (h0 : a.length ≤ 1000000) (h : ∀ x ∈ a, zA d x.Ann) (hd : d ≤ 99) (b : List Weighted) : zyb a b = (true, cmpL (zf3 a) (zf3 b)) := (zzY 1000).2.2.2 d a b h0 h (by omega)
theorem zEf {d : Nat} {a : List Term} (h : zA d a) (hd : d ≤ 100) (b : List Term) : zvO a b = (true, decide (a = b)) := by
 unfold zvO zFl
 rw [Wy.fin_bn, zG1 h hd]
 simp only [cond_true, Wy.fin_k]
 congr 1
 by_cases e : a = b
 ·subst e; rw [zFF]; simp
 ·have : cmpL (zcJ a) (zcJ b) ≠ 0 := fun h => e (zyd _ _ (zzI _ _ h))
  simp [e, this]
abbrev zyt := List Term × Int × Int × Unit
abbrev ttTref05Fits1 := Bool ⊕ (List Term × Int)
abbrev zyM := List Term × Int × Unit
def zpu (a : List Term) (i : Int) (k : Int) : Wy zyt (Unit) ttTref05Fits1 := .i (decide (0 ≤ i) && decide (i < Int.ofNat a.length)) (.i (decide (k < Int.ofNat (a.getD i.toNat default).Factors.length)) (.i (decide (0 ≤ i) && decide (i < Int.ofNat a.length)) (.i (decide (0 ≤ k) && decide (k < Int.ofNat (a.getD i.toNat default).Factors.length)) (.i (decide (((a.getD i.toNat default).Factors.getD k.toNat default).Exp > 64)) (.k (.inl false)) (.i (decide (0 ≤ i) && decide (i < Int.ofNat a.length)) (.i (decide (0 ≤ k) && decide (k < Int.ofNat (a.getD i.toNat default).Factors.length)) (.i (decide (Int.ofNat ((a.getD i.toNat default).Factors.getD k.toNat default).Atom.Items.length > 1024)) (.k (.inl false)) (.h (a, i, (IntKind.i64.wrap (k + 1)), ()) ())) .d) .d)) .d) .d) (.k (.inr (a, i)))) .d
def zEh (x : zyt) (y : Unit) : Wy zyt (Unit) ttTref05Fits1 := zpu x.1 x.2.1 x.2.2.1
def zD3 (n : Nat) (a : List Term) (i : Int) (k : Int) : Bool × ttTref05Fits1 := zN (zEh) (.inl default) n (a, i, k, ()) ()
def zpy (a : List Term) (i : Int) : Wy zyM (Unit) (Bool ⊕ Unit) := .i (decide (i < Int.ofNat a.length)) (.i (decide (0 ≤ i) && decide (i < Int.ofNat a.length)) (.i (decide (Int.ofNat (a.getD i.toNat default).Factors.length > 64)) (.k (.inl false)) (.bn (zD3 ((a.length + i.toNat + Int.toNat 0 + 1) + szTs a) a i 0) fun r0 => .i (isL r0) (.k (.inl (getL r0))) (.h ((getR r0).1, (IntKind.i64.wrap ((getR r0).2 + 1)), ()) ()))) .d) (.k (.inr ()))
def zEx (x : zyM) (y : Unit) : Wy zyM (Unit) (Bool ⊕ Unit) := zpy x.1 x.2.1
def zD6 (n : Nat) (a : List Term) (i : Int) : Bool × (Bool ⊕ Unit) := zN (zEx) (.inl default) n (a, i, ()) ()
def zEQ (a : List Term) : Wy0 (Bool) := .i (decide (Int.ofNat a.length > 512)) (.k false) (.bn (zEa a) fun r4 => .i (decide (r4 > 8)) (.k false) (.bn (zHX a) fun r3 => .i (decide (r3 > 4096)) (.k false) (.bn (zD6 ((a.length + Int.toNat 0 + 1) + szTs a) a 0) fun r2 => .i (isL r2) (.k (getL r2)) (.k true))))
def zzo (a : List Term) : Bool × Bool := (zEQ a).fin default
def zEq (v : Value) : Wy0 (Bool) := .i (v.Kind == 0) (.k (v.Text.toList == (ByteArray.mk #[]).toList)) (.i (v.Kind == 1) (.i (v.Int == 0) (.k (decide (Int.ofNat v.Text.size ≤ 255))) (.k false)) (.i (v.Kind == 2) (.i (v.Text.toList == (ByteArray.mk #[]).toList) (.i (v.Int == 0) (.k true) (.k (v.Int == 1))) (.k false)) (.k false)))
def zxb (v : Value) : Bool × Bool := (zEq v).fin default
abbrev zwH := Int × List Weighted × Unit × Int × Unit
def zoz (fn : Int) (items : List Weighted) (i : Int) (bound : Value) : Wy zwH (Value × Unit) (Bool ⊕ Unit) := .i (decide (i < Int.ofNat items.length)) (.i (decide (0 ≤ i) && decide (i < Int.ofNat items.length)) (.bn (zxb (items.getD i.toNat default).Value) fun r0 => .i (!r0) (.k (.inl false)) (.i ((items.getD i.toNat default).Value.Kind != bound.Kind) (.k (.inl false)) (.i (fn == 0) (.i ((items.getD i.toNat default).Value.Int != 1) (.k (.inl false)) (.h (fn, items, (), (IntKind.i64.wrap (i + 1)), ()) (bound, ()))) (.h (fn, items, (), (IntKind.i64.wrap (i + 1)), ()) (bound, ()))))) .d) (.k (.inr ()))
def zDb (x : zwH) (y : Value × Unit) : Wy zwH (Value × Unit) (Bool ⊕ Unit) := zoz x.1 x.2.1 x.2.2.2.1 y.1
def zwF (n : Nat) (fn : Int) (items : List Weighted) (i : Int) (bound : Value) : Bool × (Bool ⊕ Unit) := zN (zDb) (.inl default) n (fn, items, (), i, ()) (bound, ())
def zEb (fn : Int) (items : List Weighted) (op : Int) (bound : Value) : Wy0 (Bool) := .i (decide (fn < 0)) (.k false) (.i (decide (fn > 3)) (.k false) (.i (decide (op < 5)) (.k false) (.i (decide (op > 10)) (.k false) (.bn (zxb bound) fun r4 => .i (!r4) (.k false) (.i (decide (fn ≤ 1)) (.i (bound.Kind != 0) (.k false) (.bn (zwF (fn.toNat + items.length + Int.toNat 0 + 1) fn items 0 bound) fun r2 => .i (isL r2) (.k (getL r2)) (.k true))) (.bn (zwF (fn.toNat + items.length + Int.toNat 0 + 1) fn items 0 bound) fun r3 => .i (isL r3) (.k (getL r3)) (.k true)))))))
def zB7 (fn : Int) (items : List Weighted) (op : Int) (bound : Value) : Bool × Bool := (zEb fn items op bound).fin default
def zEd (x_ : Atom) : Wy0 (Bool) := .i (x_.Func == 0) (.i (Int.ofNat x_.Items.length == 0) (.i (x_.Op == 0) (.k (x_.Bound.Kind == 0 && (x_.Bound.Int == 0 && (x_.Bound.Text.toList == (ByteArray.mk #[]).toList && true)))) (.k false)) (.k false)) (.k false)
def zpQ (x_ : Atom) : Bool × Bool := (zEd x_).fin default
def zCF (a : List Term) : Wy0 (Bool) := .i (Int.ofNat a.length == 1) (.i (decide ((0 : Int) ≤ (0 : Int)) && decide (0 < Int.ofNat a.length)) (.i ((a.getD (Int.toNat 0) default).Coeff == 1) (.i (decide ((0 : Int) ≤ (0 : Int)) && decide (0 < Int.ofNat a.length)) (.i (Int.ofNat (a.getD (Int.toNat 0) default).Factors.length == 1) (.i (decide ((0 : Int) ≤ (0 : Int)) && decide (0 < Int.ofNat a.length)) (.i (decide ((0 : Int) ≤ (0 : Int)) && decide (0 < Int.ofNat (a.getD (Int.toNat 0) default).Factors.length)) (.i (decide (((a.getD (Int.toNat 0) default).Factors.getD (Int.toNat 0) default).Atom.Kind ≥ 2)) (.i (decide ((0 : Int) ≤ (0 : Int)) && decide (0 < Int.ofNat a.length)) (.i (decide ((0 : Int) ≤ (0 : Int)) && decide (0 < Int.ofNat (a.getD (Int.toNat 0) default).Factors.length)) (.k (((a.getD (Int.toNat 0) default).Factors.getD (Int.toNat 0) default).Exp == 1)) .d) .d) (.k false)) .d) .d) (.k false)) .d) (.k false)) .d) (.k false)
def zvJ (a : List Term) : Bool × Bool := (zCF a).fin default
abbrev zst := List Term × Int × Unit
def zle (a : List Term) (i : Int) : Wy zst (Unit) (Bool ⊕ Unit) := .i (decide (i < Int.ofNat a.length)) (.i (decide (0 ≤ i) && decide (i < Int.ofNat a.length)) (.i (Int.ofNat (a.getD i.toNat default).Factors.length == 0) (.k (.inl true)) (.h (a, (IntKind.i64.wrap (i + 1)), ()) ())) .d) (.k (.inr ()))
def zy1 (x : zst) (y : Unit) : Wy zst (Unit) (Bool ⊕ Unit) := zle x.1 x.2.1
def zyT (n : Nat) (a : List Term) (i : Int) : Bool × (Bool ⊕ Unit) := zN (zy1) (.inl default) n (a, i, ()) ()
def zAb (a : List Term) : Wy0 (Bool) := .bn (zyT (a.length + Int.toNat 0 + 1) a 0) fun r0 => .i (isL r0) (.k (getL r0)) (.k false)
def zog (a : List Term) : Bool × Bool := (zAb a).fin default
def allN (c : Nat → Bool) : Nat → Nat → Bool
 | 0, _ => true
 | n + 1, i => c i && allN c n (i + 1)
theorem zea {c : Nat → Bool} : ∀ {n i}, allN c n i = true ↔ ∀ k, i ≤ k → k < i + n → c k = true
 | 0, i => ⟨fun _ k h1 h2 => by omega, fun _ => rfl⟩
 | n + 1, i => by
  simp only [allN, Bool.and_eq_true, zea (n := n)]
  constructor
  ·rintro ⟨h1, h2⟩ k h3 h4
   by_cases e : k = i
   ·rw [e]; exact h1
   ·exact h2 k (by omega) (by omega)
  ·intro h
   exact ⟨h i (by omega) (by omega), fun k h1 h2 => h k (by omega) (by omega)⟩
theorem zLb (c c' : Nat → Bool) : ∀ n i, allN (fun k => c k && c' k) n i = (allN c n i && allN c' n i)
 | 0, _ => rfl
 | n + 1, i => by
  simp only [allN, zLb c c' n (i + 1)]
  cases c i <;> cases c' i <;> simp
theorem zLw {τ : Type} [Inhabited τ] (p : τ → Bool) (l : List τ) : ∀ n i, i + n = l.length → allN (fun k => p (l.getD k default)) n i = (l.drop i).all p
 | 0, i, h => by rw [zeQ (by omega)]; rfl
 | n + 1, i, h => by
  rw [zbF (by omega), List.all_cons]
  simp only [allN, zLw p l n (i + 1) (by omega)]
theorem zut {τ : Type} [Inhabited τ] (p : τ → Bool) (l : List τ) : allN (fun k => p (l.getD k default)) l.length 0 = l.all p := by
 rw [zLw p l _ _ (by omega), List.drop_zero]
section
variable {α β ρ : Type}
theorem zLa {W : α → β → Wy α β ρ} {z : ρ} (N : Nat) (ex : Nat → α) (ey : Nat → β) (c : Nat → Bool) (no yes : ρ)
  (h : ∀ i, i < N → ∀ (H : α → β → Bool × ρ) K D, (W (ex i) (ey i)).ev H K D = bif c i then H (ex (i + 1)) (ey (i + 1)) else K no)
  (he : ∀ (H : α → β → Bool × ρ) K D, (W (ex N) (ey N)).ev H K D = K yes) :
  ∀ n i, N < i + n → i ≤ N → zN W z n (ex i) (ey i) = (true, bif allN c (N - i) i then yes else no)
 | 0, i, h1, h2 => by omega
 | n + 1, i, h1, h2 => by
  show (W (ex i) (ey i)).ev (zN W z n) (fun r => (true, r)) (false, z) = _
  by_cases hi : i < N
  ·rw [h i hi, show N - i = (N - (i + 1)) + 1 by omega]
   simp only [allN]
   cases c i with
   | false => rfl
   | true => rw [cond_true, zLa N ex ey c no yes h he n (i + 1) (by omega) (by omega)]; rfl
  ·have : i = N := by omega
   subst this
   rw [he, Nat.sub_self]; rfl
theorem zdR {W : α → β → Wy α β ρ} {z : ρ} (N : Nat) (ex : Nat → α) (ey : Nat → β) (c : Nat → Bool) (no yes : ρ)
  (h : ∀ i, i < N → ∀ (H : α → β → Bool × ρ) K D, (W (ex i) (ey i)).ev H K D = bif c i then H (ex (i + 1)) (ey (i + 1)) else K no)
  (he : ∀ (H : α → β → Bool × ρ) K D, (W (ex N) (ey N)).ev H K D = K yes) (n : Nat) (hn : N < n) : zN W z n (ex 0) (ey 0) = (true, bif allN c N 0 then yes else no) := by
 have := zLa (z := z) N ex ey c no yes h he n 0 (by omega) (by omega)
 simpa using this
end
def ixf {α : Type} (p : α → Bool) : List α → Nat → Int
 | [], _ => -1
 | x :: r, i => bif p x then (i : Int) else ixf p r (i + 1)
theorem zMd {α : Type} (p : α → Bool) : ∀ (l : List α) (i : Nat), decide (ixf p l i ≥ (0 : Int)) = l.any p
 | [], i => by simp [ixf]
 | x :: r, i => by
  rw [List.any_cons]
  cases h : p x with
  | true => simp [ixf, h]
  | false => simpa [ixf, h] using zMd p r (i + 1)
section
variable {α γ : Type} [Inhabited α]
def zKa (p : γ → α → Bool × Bool) (s : List α) (g : γ) (t7 : Int) (t8 : Int) : Wy (List α × γ × Int × Int × Unit) (Unit) (Int ⊕ Unit) := .i (decide (t8 < t7)) (.i (decide ((0 : Int) ≤ t8) && decide (t8 < Int.ofNat s.length)) (.bn (p g (s.getD t8.toNat default)) fun r0 => .i (r0) (.k (.inl t8)) (.h (s, g, t7, (IntKind.i64.wrap (t8 + (1 : Int))), ()) ())) .d) (.k (.inr ()))
def zMS (p : γ → α → Bool × Bool) (x : List α × γ × Int × Int × Unit) (y : Unit) : Wy (List α × γ × Int × Int × Unit) (Unit) (Int ⊕ Unit) := zKa p x.1 x.2.1 x.2.2.1 x.2.2.2.1
def zNk (p : γ → α → Bool × Bool) (n : Nat) (s : List α) (g : γ) (t7 : Int) (t8 : Int) : Bool × (Int ⊕ Unit) := zN (zMS p) (.inl default) n (s, g, t7, t8, ()) ()
def IG (p : γ → α → Bool × Bool) (n : Nat) (g : γ) (s : List α) : Bool × Int := (.bn (zNk p n s g (Int.ofNat s.length) (0 : Int)) fun r2 => .i (isL r2) (.k (getL r2)) (.k (-1 : Int)) : Wy0 Int).fin default
def zNr (p : γ → α → Bool × Bool) (s : List α) (g : γ) (t7 : Int) (t8 : Int) : Wy (List α × γ × Int × Int × Unit) (Unit) (Int ⊕ Unit) := .i (decide (t8 < t7)) (.i (decide ((0 : Int) ≤ t8) && decide (t8 < Int.ofNat s.length)) (.i ((p g (s.getD t8.toNat default)).snd) (.k (.inl t8)) (.h (s, g, t7, (IntKind.i64.wrap (t8 + (1 : Int))), ()) ())) .d) (.k (.inr ()))
def zRS (p : γ → α → Bool × Bool) (x : List α × γ × Int × Int × Unit) (y : Unit) : Wy (List α × γ × Int × Int × Unit) (Unit) (Int ⊕ Unit) := zNr p x.1 x.2.1 x.2.2.1 x.2.2.2.1
def zNh (p : γ → α → Bool × Bool) (n : Nat) (s : List α) (g : γ) (t7 : Int) (t8 : Int) : Bool × (Int ⊕ Unit) := zN (zRS p) (.inl default) n (s, g, t7, t8, ()) ()
def IH (p : γ → α → Bool × Bool) (n : Nat) (g : γ) (s : List α) : Bool × Int := (.bn (zNh p n s g (Int.ofNat s.length) (0 : Int)) fun r2 => .i (isL r2) (.k (getL r2)) (.k (-1 : Int)) : Wy0 Int).fin default
theorem zMz (p : γ → α → Bool × Bool) (P : α → Bool) (g : γ) (s : List α) (hs : s.length ≤ 1000000000) (hp : ∀ x ∈ s, p g x = (true, P x)) : ∀ (n i : Nat), s.length < i + n → i ≤ s.length →
  ∃ r, zNk p n s g s.length i = (true, r) ∧ ((r = .inl (ixf P (s.drop i) i)) ∨ (r = .inr () ∧ ixf P (s.drop i) i = -1))
 | 0, i, h, h2 => by omega
 | n + 1, i, h, h2 => by
  show ∃ r, (zKa p s g s.length i).ev (fun x y => zNk p n x.1 x.2.1 x.2.2.1 x.2.2.2.1) (fun r => (true, r)) (false, .inl default) = (true, r) ∧ _
  unfold zKa
  by_cases hi : i < s.length
  ·simp only [Wy.ev_i, Wy.ev_k, Wy.ev_h, Wy.ev_bn, Wy.ev_d, tT, hi, hp _ (zC hi)]
   rw [zbF hi, zY (by omega)]
   simp only [ixf]
   cases P (s.getD i default) with
   | true => exact ⟨_, rfl, .inl rfl⟩
   | false => exact zMz p P g s hs hp n (i + 1) (by omega) (by omega)
  ·simp only [Wy.ev_i, Wy.ev_k, Wy.ev_h, Wy.ev_bn, Wy.ev_d, tT, hi, zeQ hi]
   exact ⟨_, rfl, .inr ⟨rfl, rfl⟩⟩
theorem zHL (p : γ → α → Bool × Bool) (P : α → Bool) (n : Nat) (g : γ) (s : List α) (hs : s.length ≤ 1000000000) (hp : ∀ x ∈ s, p g x = (true, P x)) (hn : s.length < n) : IG p n g s = (true, ixf P s 0) := by
 unfold IG
 obtain ⟨r, h1, h2⟩ := zMz p P g s hs hp n 0 (by omega) (by omega)
 rw [show ((0 : Nat) : Int) = (0 : Int) from rfl] at h1
 rw [Wy.fin_bn, show Int.ofNat s.length = (s.length : Int) from rfl, h1]
 rw [List.drop_zero] at h2
 rcases h2 with rfl | ⟨rfl, h2⟩
 ·rfl
 ·rw [h2]; rfl
theorem zMA (p : γ → α → Bool × Bool) (P : α → Bool) (g : γ) (s : List α) (hs : s.length ≤ 1000000000) (hp : ∀ x ∈ s, p g x = (true, P x)) : ∀ (n i : Nat), s.length < i + n → i ≤ s.length →
  ∃ r, zNh p n s g s.length i = (true, r) ∧ ((r = .inl (ixf P (s.drop i) i)) ∨ (r = .inr () ∧ ixf P (s.drop i) i = -1))
 | 0, i, h, h2 => by omega
 | n + 1, i, h, h2 => by
  show ∃ r, (zNr p s g s.length i).ev (fun x y => zNh p n x.1 x.2.1 x.2.2.1 x.2.2.2.1) (fun r => (true, r)) (false, .inl default) = (true, r) ∧ _
  unfold zNr
  by_cases hi : i < s.length
  ·simp only [Wy.ev_i, Wy.ev_k, Wy.ev_h, Wy.ev_bn, Wy.ev_d, tT, hi, hp _ (zC hi)]
   rw [zbF hi, zY (by omega)]
   simp only [ixf]
   cases P (s.getD i default) with
   | true => exact ⟨_, rfl, .inl rfl⟩
   | false => exact zMA p P g s hs hp n (i + 1) (by omega) (by omega)
  ·simp only [Wy.ev_i, Wy.ev_k, Wy.ev_h, Wy.ev_bn, Wy.ev_d, tT, hi, zeQ hi]
   exact ⟨_, rfl, .inr ⟨rfl, rfl⟩⟩
theorem zRK (p : γ → α → Bool × Bool) (P : α → Bool) (n : Nat) (g : γ) (s : List α) (hs : s.length ≤ 1000000000) (hp : ∀ x ∈ s, p g x = (true, P x)) (hn : s.length < n) : IH p n g s = (true, ixf P s 0) := by
 unfold IH
 obtain ⟨r, h1, h2⟩ := zMA p P g s hs hp n 0 (by omega) (by omega)
 rw [show ((0 : Nat) : Int) = (0 : Int) from rfl] at h1
 rw [Wy.fin_bn, show Int.ofNat s.length = (s.length : Int) from rfl, h1]
 rw [List.drop_zero] at h2
 rcases h2 with rfl | ⟨rfl, h2⟩
 ·rfl
 ·rw [h2]; rfl
theorem zpT {α : Type} {s : List α} {P : α → Bool} {q : Bool × Int} (h : q = (true, ixf P s 0)) : ((.bn q fun r0 => .k (decide (r0 ≥ (0 : Int))) : Wy0 Bool).fin default) = (true, s.any P) := by
 rw [h, Wy.fin_bn, cond_true, Wy.fin_k, zMd]
end
theorem beqd (a b : Int) : (a == b) = decide (a = b) := by by_cases h : a = b <;> simp [h]
theorem beqn (a b : Nat) : (a == b) = decide (a = b) := by by_cases h : a = b <;> simp [h]
theorem i0 (l : Nat) : ((l : Int) == 0) = (l == 0) := by
 rw [beqd, beqn]; congr 1; simp
def hasC (a : List Term) : Bool := a.any fun t => t.Factors.length == 0
theorem zIC (a : List Term) (h : a.length ≤ 1000000000) : zeb a = (true, hasC a) := by
 unfold zeb zmp zcB zdI
 have : zcY a = IH (fun (_ : Unit) x => zfW x) (a.length + (Int.ofNat a.length).toNat + Int.toNat (0 : Int) + (1 : Nat)) () a := rfl
 rw [zpT (P := fun t : Term => t.Factors.length == 0) (this.trans (zRK _ _ _ _ _ h (fun x _ => by
  unfold zfW zkn
  rw [Wy.fin_k]
  congr 1
  exact i0 x.Factors.length) (by omega)))]
 rfl
theorem zGg (a : List Term) (h : a.length ≤ 1000000000) : zog a = (true, hasC a) := by
 unfold zog zAb zyT
 have := zdR (W := zy1) (z := .inl default) a.length (fun i => (a, (i : Int), ())) (fun _ => ()) (fun i => !((a.getD i default).Factors.length == 0)) (.inl true) (.inr ())
  (fun i hi H K D => by
   show (zle a i).ev H K D = _
   unfold zle
   simp only [Wy.ev_i, Wy.ev_k, Wy.ev_h, Wy.ev_bn, Wy.ev_d, tT, hi, i0]
   rw [zY (by omega)]
   cases (a.getD i default).Factors.length == 0 <;> rfl)
  (fun H K D => by
   show (zle a a.length).ev H K D = _
   unfold zle
   simp only [Wy.ev_i, Wy.ev_k, tT, Nat.lt_irrefl]) (a.length + Int.toNat (0 : Int) + (1 : Nat)) (by omega)
 rw [show ((0 : Nat) : Int) = (0 : Int) from rfl] at this
 rw [Wy.fin_bn, this, zut (fun t : Term => !(t.Factors.length == 0)) a]
 have e : (a.all fun t : Term => !(t.Factors.length == 0)) = !hasC a := by simp [hasC, List.all_eq_not_any_not]
 rw [e]
 cases hasC a <;> rfl
def isC : List Term → Bool
 | [t] => t.Factors.length == 0
 | _ => false
theorem zJQ (a : List Term) : zgd a = (true, isC a) := by
 unfold zgd zmY
 match a with
 | [] => rfl
 | [t] => exact congrArg (Prod.mk true) (i0 t.Factors.length)
 | t :: u :: r =>
  have : ((Int.ofNat (t :: u :: r).length) == (1 : Int)) = false := by simp; omega
  rw [Wy.fin_i, this]; rfl
def oneF (p : Factor → Bool) : List Factor → Bool
 | [f] => p f
 | _ => false
def isU : List Term → Bool
 | [t] => t.Coeff == 1 && oneF (fun f => f.Exp == 1 && (f.Atom.Kind == 2 || f.Atom.Kind == 3 || f.Atom.Kind == 4)) t.Factors
 | _ => false
theorem zIw (x : Atom) : zez x = (true, x.Kind == 3 || x.Kind == 4) := by
 unfold zez zmP
 rw [Wy.fin_i, Wy.fin_k, Wy.fin_k]
 cases x.Kind == 3 <;> rfl
theorem len2 {τ : Type} (x y : τ) (r : List τ) : ((Int.ofNat (x :: y :: r).length) == (1 : Int)) = false := by
 rw [beq_eq_false_iff_ne]; simp; omega
theorem zOl (a : List Term) : zji a = (true, isU a) := by
 unfold zji zpY
 match a with
 | [] => rfl
 | ⟨c, []⟩ :: [] =>
  show (bif c != 1 then (true, false) else (true, false)) = (true, c == 1 && false)
  cases c != 1 <;> simp
 | ⟨c, [f]⟩ :: [] =>
  simp only [Wy.fin_i, Wy.fin_k, tT, isU, List.length_singleton, zIw, Wy.fin_bn, Wy.fin_d]
  show (bif c != 1 then (true, false) else bif f.Exp == 1 then bif f.Atom.Kind == 2 then (true, true) else (true, f.Atom.Kind == 3 || f.Atom.Kind == 4) else (true, false)) = (true, c == 1 && (f.Exp == 1 && (f.Atom.Kind == 2 || f.Atom.Kind == 3 || f.Atom.Kind == 4)))
  rw [show (c != 1) = !(c == 1) from rfl]
  cases c == 1 <;> cases f.Exp == 1 <;> cases f.Atom.Kind == 2 <;> simp
 | ⟨c, f :: g :: r⟩ :: [] =>
  simp only [Wy.fin_i, bne, len2]
  show (bif !(c == 1) then (true, false) else (true, false)) = (true, c == 1 && false)
  cases c == 1 <;> rfl
 | t :: u :: r => rw [Wy.fin_i, bne, len2]; rfl
def isB : List Term → Bool
 | [t] => t.Coeff == 1 && oneF (fun f => f.Exp == 1 && decide (2 ≤ f.Atom.Kind)) t.Factors
 | _ => false
theorem zHj (a : List Term) : zvJ a = (true, isB a) := by
 unfold zvJ zCF
 match a with
 | [] => rfl
 | ⟨c, []⟩ :: [] =>
  show (bif c == 1 then (true, false) else (true, false)) = (true, c == 1 && false)
  cases c == 1 <;> rfl
 | ⟨c, [f]⟩ :: [] =>
  simp only [Wy.fin_i, Wy.fin_k, tT, List.length_singleton, Wy.fin_bn, Wy.fin_d]
  show (bif c == 1 then bif decide (2 ≤ f.Atom.Kind) then (true, f.Exp == 1) else (true, false) else (true, false)) = (true, c == 1 && (f.Exp == 1 && decide (2 ≤ f.Atom.Kind)))
  cases c == 1 <;> cases f.Exp == 1 <;> cases decide (2 ≤ f.Atom.Kind) <;> simp
 | ⟨c, f :: g :: r⟩ :: [] =>
  rw [Wy.fin_i]
  show (bif true then (Wy.i true (Wy.i (c == 1) (Wy.i true (Wy.i (Int.ofNat (f :: g :: r).length == 1) _ (.k false)) .d) (.k false)) .d : Wy0 Bool).fin default else _) = (true, c == 1 && false)
  simp only [Wy.fin_i, Wy.fin_k, len2, cond_true, cond_false]
  cases c == 1 <;> rfl
 | t :: u :: r => rw [Wy.fin_i, len2]; rfl
theorem zCC (a b : Nat) : decide (a > b) = !decide (a ≤ b) := by
 by_cases h : a ≤ b
 ·have : ¬ a > b := by omega
  simp [h, this]
 ·have : a > b := by omega
  simp [h, this]
def withF (t : Term) : Bool := !(decide (t.Factors.length > 64) || t.Factors.any fun f => decide (f.Exp > 64) || decide (f.Atom.Items.length > 1024))
def zhG (a : List Term) : Bool := decide (a.length ≤ 512) && decide (zbg a ≤ 8) && decide (zK a ≤ 4096) && a.all withF
theorem zNw (l : List Factor) (h : l.length ≤ 1000000) : zb2 l = (true, l.any fun f => decide (f.Exp > 64) || decide (f.Atom.Items.length > 1024)) := by
 unfold zb2 zdV
 have hw : zb1 = zMS (fun (_ : Unit) x => zeR x) := by
  funext x y
  unfold zb1 zhH zMS zKa
  rw [Factor.eta2]
 have : zcg l = IG (fun (_ : Unit) x => zeR x) (l.length + (Int.ofNat l.length).toNat + Int.toNat (0 : Int) + (1 : Nat)) () l := by
  unfold zcg zd7 zhM
  rw [hw]; rfl
 exact zpT (this.trans (zHL _ _ _ _ _ (by omega) (fun x _ => by
  unfold zeR zlw
  rw [Wy.fin_i, Wy.fin_k, Wy.fin_k]
  have e : decide (Int.ofNat x.Atom.Items.length > (1024 : Int)) = decide (x.Atom.Items.length > 1024) := zoy _ 1024
  rw [e]
  cases decide (x.Exp > 64) <;> rfl) (by omega)))
theorem zJK {d : Nat} {a : List Term} (h : zA d a) (hd : d ≤ 100) (hs : zK a ≤ 4611686018427387904) : zjk a = (true, zhG a) := by
 obtain ⟨h1, h2⟩ : a.length ≤ 1000000 ∧ ∀ t ∈ a, t.Factors.length ≤ 1000000 := by
  cases d with
  | zero => exact h.elim
  | succ d => exact ⟨h.1, fun t ht => (h.2 t ht).1⟩
 have h3 : zbQ a = (true, a.any fun t => !withF t) := by
  unfold zbQ zdM
  have : zcZ a = IG (fun (_ : Unit) x => zjg x) (a.length + (Int.ofNat a.length).toNat + Int.toNat (0 : Int) + (1 : Nat)) () a := rfl
  exact zpT (this.trans (zHL _ _ _ _ _ (by omega) (fun x hx => by
   unfold zjg znt
   rw [Wy.fin_i, Wy.fin_k, Wy.fin_bn, zNw _ (h2 x hx)]
   have e : decide (Int.ofNat x.Factors.length > (64 : Int)) = decide (x.Factors.length > 64) := zoy _ 64
   rw [e]
   unfold withF
   cases decide (x.Factors.length > 64) <;> simp [Wy.fin_k]) (by omega)))
 unfold zjk zp0
 have n1 : zrj a = (true, (zbg a : Int)) := (zI3 1000 d a h (by omega) hd).1
 have n2 : zu5 a = (true, (zK a : Int)) := (zGW 1000 d a h (by omega) hs).1
 simp only [Wy.fin_i, Wy.fin_k, Wy.fin_bn, n1, n2, h3, cond_true]
 have e1 : decide (Int.ofNat a.length > (512 : Int)) = !decide (a.length ≤ 512) := by rw [show decide (Int.ofNat a.length > (512 : Int)) = decide (a.length > 512) from zoy _ 512]; exact zCC _ _
 have e2 : decide ((zbg a : Int) > (8 : Int)) = !decide (zbg a ≤ 8) := by rw [show decide ((zbg a : Int) > (8 : Int)) = decide (zbg a > 8) from zoy _ 8]; exact zCC _ _
 have e3 : decide ((zK a : Int) > (4096 : Int)) = !decide (zK a ≤ 4096) := by rw [show decide ((zK a : Int) > (4096 : Int)) = decide (zK a > 4096) from zoy _ 4096]; exact zCC _ _
 have e4 : (a.any fun t => !withF t) = !a.all withF := by simp [List.all_eq_not_any_not]
 rw [e1, e2, e3, e4]
 unfold zhG
 cases decide (a.length ≤ 512) <;> cases decide (zbg a ≤ 8) <;> cases decide (zK a ≤ 4096) <;> simp
theorem zRm (a : List Term) (i : Nat) (hi : i < a.length) (hl : (a.getD i default).Factors.length ≤ 1000000) (fuel : Nat) (hf : (a.getD i default).Factors.length < fuel) :
  zD3 fuel a i 0 = (true, bif (a.getD i default).Factors.any fun f => decide (f.Exp > 64) || decide (f.Atom.Items.length > 1024) then .inl false else .inr (a, (i : Int))) := by
 have := zdR (W := zEh) (z := .inl default) (a.getD i default).Factors.length (fun k => (a, (i : Int), (k : Int), ())) (fun _ => ()) (fun k => (fun f : Factor => !(decide (f.Exp > 64) || decide (f.Atom.Items.length > 1024))) ((a.getD i default).Factors.getD k default)) (.inl false) (.inr (a, (i : Int)))
  (fun k hk H K D => by
   show (zpu a i k).ev H K D = _
   unfold zpu
   simp only [Wy.ev_i, Wy.ev_k, Wy.ev_h, Wy.ev_bn, Wy.ev_d, tT, hi, hk]
   rw [zY (by omega), show decide ((((a.getD i default).Factors.getD k default).Atom.Items.length : Int) > (1024 : Int)) = _ from zoy _ 1024]
   cases decide (((a.getD i default).Factors.getD k default).Exp > 64) <;> cases decide (1024 < ((a.getD i default).Factors.getD k default).Atom.Items.length) <;> rfl)
  (fun H K D => by
   show (zpu a i (a.getD i default).Factors.length).ev H K D = _
   unfold zpu
   simp only [Wy.ev_i, Wy.ev_k, Wy.ev_h, Wy.ev_bn, Wy.ev_d, tT, hi, Nat.lt_irrefl]) fuel hf
 rw [zut (fun f : Factor => !(decide (f.Exp > 64) || decide (f.Atom.Items.length > 1024)))] at this
 have e : ((a.getD i default).Factors.all fun f => !(decide (f.Exp > 64) || decide (f.Atom.Items.length > 1024))) = !((a.getD i default).Factors.any fun f => decide (f.Exp > 64) || decide (f.Atom.Items.length > 1024)) := by simp [List.all_eq_not_any_not]
 rw [e] at this
 refine this.trans ?_
 cases (a.getD i default).Factors.any fun f => decide (f.Exp > 64) || decide (f.Atom.Items.length > 1024) <;> rfl
theorem zL7 {d : Nat} {a : List Term} (h : zA d a) (hd : d ≤ 100) (hs : zK a ≤ 4611686018427387904) : zzo a = (true, zhG a) := by
 obtain ⟨h1, h2⟩ : a.length ≤ 1000000 ∧ ∀ t ∈ a, t.Factors.length ≤ 1000000 := by
  cases d with
  | zero => exact h.elim
  | succ d => exact ⟨h.1, fun t ht => (h.2 t ht).1⟩
 have h3 : zD6 ((a.length + Int.toNat (0 : Int) + (1 : Nat)) + szTs a) a 0 = (true, bif a.all withF then .inr () else .inl false) := by
  have := zdR (W := zEx) (z := .inl default) a.length (fun k => (a, (k : Int), ())) (fun _ => ()) (fun k => withF (a.getD k default)) (.inl false) (.inr ())
   (fun k hk H K D => by
    show (zpy a k).ev H K D = _
    unfold zpy
    have h4 := h2 _ (zC hk)
    have h5 := zAz a k hk
    simp only [Wy.ev_i, Wy.ev_k, Wy.ev_h, Wy.ev_bn, Wy.ev_d, tT, hk]
    rw [zRm a k hk h4 _ (by omega)]
    have e : decide (((a.getD k default).Factors.length : Int) > (64 : Int)) = decide ((a.getD k default).Factors.length > 64) := zoy _ 64
    rw [e]
    unfold withF
    cases decide ((a.getD k default).Factors.length > 64) <;> cases ((a.getD k default).Factors.any fun f => decide (f.Exp > 64) || decide (f.Atom.Items.length > 1024))
    ·simp only [cond_false, cond_true, isL, getR]; rw [zY (by omega)]; rfl
    all_goals rfl)
   (fun H K D => by
    show (zpy a a.length).ev H K D = _
    unfold zpy
    simp only [Wy.ev_i, Wy.ev_k, Wy.ev_h, Wy.ev_bn, Wy.ev_d, tT, Nat.lt_irrefl]) ((a.length + Int.toNat (0 : Int) + (1 : Nat)) + szTs a) (by omega)
  rw [zut] at this
  exact this
 unfold zzo zEQ
 have n1 : zEa a = (true, (zbg a : Int)) := (zI3 1000 d a h (by omega) hd).2
 have n2 : zHX a = (true, (zK a : Int)) := (zGW 1000 d a h (by omega) hs).2
 simp only [Wy.fin_i, Wy.fin_k, Wy.fin_bn, n1, n2, h3, cond_true]
 have e1 : decide (Int.ofNat a.length > (512 : Int)) = !decide (a.length ≤ 512) := by rw [show decide (Int.ofNat a.length > (512 : Int)) = decide (a.length > 512) from zoy _ 512]; exact zCC _ _
 have e2 : decide ((zbg a : Int) > (8 : Int)) = !decide (zbg a ≤ 8) := by rw [show decide ((zbg a : Int) > (8 : Int)) = decide (zbg a > 8) from zoy _ 8]; exact zCC _ _
 have e3 : decide ((zK a : Int) > (4096 : Int)) = !decide (zK a ≤ 4096) := by rw [show decide ((zK a : Int) > (4096 : Int)) = decide (zK a > 4096) from zoy _ 4096]; exact zCC _ _
 rw [e1, e2, e3]
 unfold zhG
 cases decide (a.length ≤ 512) <;> cases decide (zbg a ≤ 8) <;> cases decide (zK a ≤ 4096) <;> cases a.all withF <;> simp [isL, getL]
def valV (v : Value) : Bool := (v.Kind == 0 && v.Text.size == 0) || (v.Kind == 1 && v.Int == 0 && decide (v.Text.size ≤ 255)) || (v.Kind == 2 && v.Text.size == 0 && (v.Int == 0 || v.Int == 1))
theorem zLt (s : ByteArray) : (s.toList == (ByteArray.mk #[]).toList) = (s.size == 0) := by
 rw [zES]
 by_cases h : s.size = 0
 ·have : s = ByteArray.mk #[] := zxl (by
   have : s.data.toList.length = 0 := by simpa using h
   rw [List.length_eq_zero_iff.1 this])
  subst this; rfl
 ·have : ¬ s = ByteArray.mk #[] := fun e => h (by rw [e]; rfl)
  simp [h, this]
theorem zwY (v : Value) : znw v = (true, valV v) := by
 unfold znw zyy valV
 simp only [zLt, Wy.fin_i, Wy.fin_k, beqd, beqn]
 have e : decide (Int.ofNat v.Text.size ≤ (255 : Int)) = decide (v.Text.size ≤ 255) := zs6 _ 255
 rw [e]
 by_cases h0 : v.Kind = 0
 ·simp [h0]
 ·by_cases h1 : v.Kind = 1
  ·by_cases h2 : v.Int = 0 <;> simp [h1, h2]
  ·by_cases h2 : v.Kind = 2
   ·by_cases h3 : v.Int = 0
    ·simp [h2, h3]
    ·by_cases h4 : v.Int = 1 <;> simp [h2, h3, h4]
   ·simp [h0, h1, h2]
theorem zCx (v : Value) : zxb v = (true, valV v) := by
 unfold zxb zEq valV
 simp only [zLt, Wy.fin_i, Wy.fin_k, beqd, beqn]
 have e : decide (Int.ofNat v.Text.size ≤ (255 : Int)) = decide (v.Text.size ≤ 255) := zs6 _ 255
 rw [e]
 by_cases h0 : v.Kind = 0
 ·simp [h0]
 ·by_cases h1 : v.Kind = 1
  ·by_cases h2 : v.Int = 0 <;> simp [h1, h2]
  ·by_cases h2 : v.Kind = 2
   ·by_cases h3 : v.Int = 0
    ·by_cases h4 : v.Text.size = 0 <;> simp [h2, h3, h4]
    ·by_cases h4 : v.Text.size = 0 <;> simp [h2, h3, h4]
   ·simp [h0, h1, h2]
def fitI (fn : Int) (b : Value) (w : Weighted) : Bool := valV w.Value && (w.Value.Kind == b.Kind) && !(fn == 0 && w.Value.Int != 1)
def fitK (fn : Int) (l : List Weighted) (op : Int) (b : Value) : Bool := decide (0 ≤ fn) && decide (fn ≤ 3) && decide (5 ≤ op) && decide (op ≤ 10) && valV b && !(decide (fn ≤ 1) && b.Kind != 0) && l.all (fitI fn b)
theorem zPa (l : List Weighted) (fn : Int) (b : Value) (h : l.length ≤ 1000000) : zbe l b fn = (true, !l.all (fitI fn b)) := by
 unfold zbe zdk
 have : zcC l b fn = IG (fun (g : Value × (Int × Unit) × Unit) x => zgj x g.1 g.2.1.1) (l.length + fn.toNat + (Int.ofNat l.length).toNat + Int.toNat (0 : Int) + (1 : Nat)) (b, (fn, ()), ()) l := rfl
 have e : (!l.all (fitI fn b)) = l.any fun w => !fitI fn b w := by simp [List.all_eq_not_any_not]
 rw [e]
 exact zpT (this.trans (zHL _ _ _ _ _ (by omega) (fun x _ => by
  show zgj x b fn = _
  unfold zgj zmV fitI
  simp only [Wy.fin_i, Wy.fin_k, Wy.fin_bn, zwY, cond_true, beqd, bne0]
  cases valV x.Value <;> by_cases h1 : x.Value.Kind = b.Kind <;> by_cases h2 : fn = 0 <;> simp [beqd, bne0, h1, h2]) (by omega)))
theorem zML (fn : Int) (l : List Weighted) (op : Int) (b : Value) (h : l.length ≤ 1000000) : zif fn l op b = (true, fitK fn l op b) := by
 unfold zif zo6 fitK
 simp only [Wy.fin_i, Wy.fin_k, Wy.fin_bn, zwY, zPa l fn b h, cond_true, beqd, bne0]
 by_cases h1 : fn < 0
 ·have : ¬ (0 ≤ fn) := by omega
  simp [h1, this]
 by_cases h2 : 3 < fn
 ·have : ¬ (fn ≤ 3) := by omega
  simp [h1, h2, this]
 by_cases h3 : op < 5
 ·have : ¬ (5 ≤ op) := by omega
  simp [h1, h2, h3, this]
 by_cases h4 : 10 < op
 ·have : ¬ (op ≤ 10) := by omega
  simp [h1, h2, h3, h4, this]
 have g1 : 0 ≤ fn := by omega
 have g2 : fn ≤ 3 := by omega
 have g3 : 5 ≤ op := by omega
 have g4 : op ≤ 10 := by omega
 cases valV b with
 | false => simp [h1, h2, h3, h4]
 | true =>
  by_cases h5 : fn = 0
  ·subst h5; by_cases h6 : b.Kind = 0 <;> simp [h3, h4, h6, g3, g4]
  ·by_cases h7 : fn = 1
   ·subst h7; by_cases h6 : b.Kind = 0 <;> simp [h3, h4, h6, g3, g4]
   ·have : ¬ fn ≤ 1 := by omega
    simp [h1, h2, h3, h4, h5, h7, this, g1, g2, g3, g4]
theorem zPC (fn : Int) (l : List Weighted) (op : Int) (b : Value) (h : l.length ≤ 1000000) : zB7 fn l op b = (true, fitK fn l op b) := by
 unfold zB7 zEb fitK
 have hl : zwF (fn.toNat + l.length + Int.toNat (0 : Int) + (1 : Nat)) fn l (0 : Int) b = (true, bif l.all (fitI fn b) then .inr () else .inl false) := by
  have := zdR (W := zDb) (z := .inl default) l.length (fun k => (fn, l, (), (k : Int), ())) (fun _ => (b, ())) (fun k => fitI fn b (l.getD k default)) (.inl false) (.inr ())
   (fun k hk H K D => by
    show (zoz fn l k b).ev H K D = _
    unfold zoz fitI
    simp only [Wy.ev_i, Wy.ev_k, Wy.ev_h, Wy.ev_bn, Wy.ev_d, tT, hk, zCx, beqd, bne0]
    rw [zY (by omega)]
    cases valV (l.getD k default).Value <;> cases decide ((l.getD k default).Value.Kind = b.Kind) <;> cases decide (fn = 0) <;> cases decide ((l.getD k default).Value.Int = 1) <;> rfl)
   (fun H K D => by
    show (zoz fn l l.length b).ev H K D = _
    unfold zoz
    simp only [Wy.ev_i, Wy.ev_k, Wy.ev_h, Wy.ev_bn, Wy.ev_d, tT, Nat.lt_irrefl]) (fn.toNat + l.length + Int.toNat (0 : Int) + (1 : Nat)) (by omega)
  rw [zut] at this
  exact this
 simp only [Wy.fin_i, Wy.fin_k, Wy.fin_bn, zCx, hl, cond_true, beqd, bne0]
 by_cases h1 : fn < 0
 ·have : ¬ (0 ≤ fn) := by omega
  simp [h1, this]
 by_cases h2 : 3 < fn
 ·have : ¬ (fn ≤ 3) := by omega
  simp [h1, h2, this]
 by_cases h3 : op < 5
 ·have : ¬ (5 ≤ op) := by omega
  simp [h1, h2, h3, this]
 by_cases h4 : 10 < op
 ·have : ¬ (op ≤ 10) := by omega
  simp [h1, h2, h3, h4, this]
 have g1 : 0 ≤ fn := by omega
 have g2 : fn ≤ 3 := by omega
 have g3 : 5 ≤ op := by omega
 have g4 : op ≤ 10 := by omega
 cases valV b with
 | false => simp [h1, h2, h3, h4]
 | true =>
  by_cases h5 : fn ≤ 1
  ·by_cases h6 : b.Kind = 0
   ·cases l.all (fitI fn b) <;> simp [h1, h2, h3, h4, h5, h6, g1, g2, g3, g4, isL, getL]
   ·simp [h1, h2, h3, h4, h5, h6, g1, g2, g3, g4]
  ·cases l.all (fitI fn b) <;> simp [h1, h2, h3, h4, h5, g1, g2, g3, g4, isL, getL]
def bz (b : Value) : Bool := b.Kind == (0 : Int) && (b.Int == (0 : Int) && (b.Text.toList == (ByteArray.mk #[]).toList && true))
def plA (x : Atom) : Bool := x.Func == 0 && (x.Items.length == 0) && x.Op == 0 && bz x.Bound
theorem zPl (x : Atom) : zpQ x = (true, plA x) := by
 unfold zpQ zEd plA
 simp only [Wy.fin_i, Wy.fin_k, Int.ofNat_eq_natCast, i0]
 show _ = (true, _ && _ && _ && bz x.Bound)
 rw [show (x.Bound.Kind == (0 : Int) && (x.Bound.Int == (0 : Int) && (x.Bound.Text.toList == (ByteArray.mk #[]).toList && true))) = bz x.Bound from rfl]
 cases x.Func == 0 <;> cases x.Items.length == 0 <;> cases x.Op == 0 <;> rfl
def srtI (l : List Weighted) (k : Nat) : Bool := decide (k = 0) || decide (cmpT (ze8 (l.getD (k - 1) default)) (ze8 (l.getD k default)) ≤ 0)
def srtW (l : List Weighted) : Bool := allN (srtI l) l.length 0
theorem zJo (c : Nat → Bool) : ∀ n i, allN c (n + 1) i = (allN c n i && c (i + n))
 | 0, i => by simp [allN]
 | n + 1, i => by
  rw [allN, zJo c n (i + 1), allN, show i + 1 + n = i + (n + 1) by omega, Bool.and_assoc]
theorem zEv {d : Nat} (l : List Weighted) (hl : l.length ≤ 1000000) (h : ∀ w ∈ l, zA d w.Ann) (hd : d ≤ 99) : ∀ (n i : Nat), i < l.length → i < n → zdC n l i = (true, bif allN (srtI l) (i + 1) 0 then .inr () else .inl false)
 | 0, i, hi, hn => by omega
 | n + 1, i, hi, hn => by
  show (zdz l i).ev (fun x y => zdC n x.1 x.2.2.1) (fun r => (true, r)) (false, .inl default) = _
  unfold zdz
  have hg : decide ((i : Int) > (0 : Int)) = decide (0 < i) := zoy i 0
  cases i with
  | zero => simp [Wy.ev_i, Wy.ev_k, allN, srtI]
  | succ i =>
   have hi' : i < l.length := by omega
   have hw : IntKind.i64.wrap (((i + 1 : Nat) : Int) - 1) = (i : Int) := by rw [zrx (by omega) (by omega)]; rfl
   have hp : decide (0 < i + 1) = true := by simp
   simp only [Wy.ev_i, Wy.ev_k, Wy.ev_h, Wy.ev_bn, Wy.ev_d, hg, hp, hw, tT, hi, hi', zyr (h _ (zC hi)) hd]
   rw [zEv l hl h hd n i hi' (by omega), zJo _ (i + 1), Nat.zero_add]
   have : srtI l (i + 1) = !decide (cmpT (ze8 (l.getD (i + 1) default)) (ze8 (l.getD i default)) < 0) := by
    unfold srtI
    rw [show i + 1 - 1 = i from rfl, zuz (ze8 (l.getD (i + 1) default)) (ze8 (l.getD i default))]
    generalize cmpT (ze8 (l.getD (i + 1) default)) (ze8 (l.getD i default)) = z
    by_cases hz : z < 0
    ·have : ¬ (-z ≤ 0) := by omega
     simp [hz, this]
    ·have : (-z ≤ 0) := by omega
     simp [hz, this]
   rw [this]
   cases decide (cmpT (ze8 (l.getD (i + 1) default)) (ze8 (l.getD i default)) < 0) <;> simp
theorem zLT {d : Nat} (l : List Weighted) (hl : l.length ≤ 1000000) (h : ∀ w ∈ l, zA d w.Ann) (hd : d ≤ 99) : zbR l = (true, srtW l) := by
 unfold zbR zdK srtW
 match l, hl, h with
 | [], _, _ => rfl
 | x :: r, hl, h =>
  have hw : IntKind.i64.wrap (Int.ofNat (x :: r).length - 1) = (r.length : Int) := by
   rw [List.length_cons] at hl
   rw [show Int.ofNat (x :: r).length = (((x :: r).length : Nat) : Int) from rfl, zrx (by simp) (by simp; omega)]; rfl
  rw [Wy.fin_bn, hw, zEv (x :: r) hl h hd _ r.length (by simp) (by simp; omega)]
  cases allN (srtI (x :: r)) (r.length + 1) 0 with
  | true => simp [Wy.fin_i, Wy.fin_k, isL]
  | false => simp [Wy.fin_i, Wy.fin_k, isL, getL]
abbrev zwu := List Term × Int × Unit × Int × Unit
abbrev ttTref05Valid1 := Bool ⊕ (List Term × Int)
abbrev zwR := List Term × Int × Unit
def zlc (zbD : Atom → Bool × Bool) (a : List Term) (i : Int) (k : Int) (t : Term) : Wy zwu (Term × Unit) ttTref05Valid1 := .i (decide (k < Int.ofNat t.Factors.length)) (.i (decide (0 ≤ k) && decide (k < Int.ofNat t.Factors.length)) (.i (decide ((t.Factors.getD k.toNat default).Exp < 1)) (.k (.inl false)) (.i (decide ((t.Factors.getD k.toNat default).Exp > 1)) (.i (decide ((t.Factors.getD k.toNat default).Atom.Kind ≥ 3)) (.k (.inl false)) (.bn (zbD (Atom.mk (t.Factors.getD k.toNat default).Atom.Kind (t.Factors.getD k.toNat default).Atom.Row (t.Factors.getD k.toNat default).Atom.Args (t.Factors.getD k.toNat default).Atom.Func (t.Factors.getD k.toNat default).Atom.Items (t.Factors.getD k.toNat default).Atom.Op (t.Factors.getD k.toNat default).Atom.Bound)) fun r1 => .i (!r1) (.k (.inl false)) (.i (decide (k > 0)) (.i (decide (0 ≤ IntKind.i64.wrap (k - 1)) && decide (IntKind.i64.wrap (k - 1) < Int.ofNat t.Factors.length)) (.bn (zlh (Atom.mk (t.Factors.getD (IntKind.i64.wrap (k - 1)).toNat default).Atom.Kind (t.Factors.getD (IntKind.i64.wrap (k - 1)).toNat default).Atom.Row (t.Factors.getD (IntKind.i64.wrap (k - 1)).toNat default).Atom.Args (t.Factors.getD (IntKind.i64.wrap (k - 1)).toNat default).Atom.Func (t.Factors.getD (IntKind.i64.wrap (k - 1)).toNat default).Atom.Items (t.Factors.getD (IntKind.i64.wrap (k - 1)).toNat default).Atom.Op (t.Factors.getD (IntKind.i64.wrap (k - 1)).toNat default).Atom.Bound) (Atom.mk (t.Factors.getD k.toNat default).Atom.Kind (t.Factors.getD k.toNat default).Atom.Row (t.Factors.getD k.toNat default).Atom.Args (t.Factors.getD k.toNat default).Atom.Func (t.Factors.getD k.toNat default).Atom.Items (t.Factors.getD k.toNat default).Atom.Op (t.Factors.getD k.toNat default).Atom.Bound)) fun r0 => .i (decide (r0 ≥ 0)) (.k (.inl false)) (.h (a, i, (), (IntKind.i64.wrap (k + 1)), ()) (t, ()))) .d) (.h (a, i, (), (IntKind.i64.wrap (k + 1)), ()) (t, ()))))) (.bn (zbD (Atom.mk (t.Factors.getD k.toNat default).Atom.Kind (t.Factors.getD k.toNat default).Atom.Row (t.Factors.getD k.toNat default).Atom.Args (t.Factors.getD k.toNat default).Atom.Func (t.Factors.getD k.toNat default).Atom.Items (t.Factors.getD k.toNat default).Atom.Op (t.Factors.getD k.toNat default).Atom.Bound)) fun r3 => .i (!r3) (.k (.inl false)) (.i (decide (k > 0)) (.i (decide (0 ≤ IntKind.i64.wrap (k - 1)) && decide (IntKind.i64.wrap (k - 1) < Int.ofNat t.Factors.length)) (.bn (zlh (Atom.mk (t.Factors.getD (IntKind.i64.wrap (k - 1)).toNat default).Atom.Kind (t.Factors.getD (IntKind.i64.wrap (k - 1)).toNat default).Atom.Row (t.Factors.getD (IntKind.i64.wrap (k - 1)).toNat default).Atom.Args (t.Factors.getD (IntKind.i64.wrap (k - 1)).toNat default).Atom.Func (t.Factors.getD (IntKind.i64.wrap (k - 1)).toNat default).Atom.Items (t.Factors.getD (IntKind.i64.wrap (k - 1)).toNat default).Atom.Op (t.Factors.getD (IntKind.i64.wrap (k - 1)).toNat default).Atom.Bound) (Atom.mk (t.Factors.getD k.toNat default).Atom.Kind (t.Factors.getD k.toNat default).Atom.Row (t.Factors.getD k.toNat default).Atom.Args (t.Factors.getD k.toNat default).Atom.Func (t.Factors.getD k.toNat default).Atom.Items (t.Factors.getD k.toNat default).Atom.Op (t.Factors.getD k.toNat default).Atom.Bound)) fun r2 => .i (decide (r2 ≥ 0)) (.k (.inl false)) (.h (a, i, (), (IntKind.i64.wrap (k + 1)), ()) (t, ()))) .d) (.h (a, i, (), (IntKind.i64.wrap (k + 1)), ()) (t, ())))))) .d) (.k (.inr (a, i)))
def zyV (zbD : Atom → Bool × Bool) (x : zwu) (y : Term × Unit) : Wy zwu (Term × Unit) ttTref05Valid1 := zlc zbD x.1 x.2.1 x.2.2.2.1 y.1
def zsr (zbD : Atom → Bool × Bool) (n : Nat) (a : List Term) (i : Int) (k : Int) (t : Term) : Bool × ttTref05Valid1 := zN (zyV zbD) (.inl default) n (a, i, (), k, ()) (t, ())
def zmr (zbD : Atom → Bool × Bool) (a : List Term) (i : Int) : Wy zwR (Unit) (Bool ⊕ Unit) := .i (decide (i < Int.ofNat a.length)) (.i (decide (0 ≤ i) && decide (i < Int.ofNat a.length)) (.i (decide ((a.getD i.toNat default).Coeff < 1)) (.k (.inl false)) (.i (decide ((a.getD i.toNat default).Coeff > 1152921504606846976)) (.k (.inl false)) (.i (decide (i > 0)) (.i (decide (0 ≤ IntKind.i64.wrap (i - 1)) && decide (IntKind.i64.wrap (i - 1) < Int.ofNat a.length)) (.bn (zlt (a.getD (IntKind.i64.wrap (i - 1)).toNat default).Factors (a.getD i.toNat default).Factors) fun r9 => .i (decide (r9 ≥ 0)) (.k (.inl false)) (.bn (zsr zbD (((a.length + i.toNat + Int.toNat 0 + 1) + (a.getD i.toNat default).Factors.length) + szTs a) a i 0 (a.getD i.toNat default)) fun r8 => .i (isL r8) (.k (.inl (getL r8))) (.h ((getR r8).1, (IntKind.i64.wrap ((getR r8).2 + 1)), ()) ()))) .d) (.bn (zsr zbD (((a.length + i.toNat + Int.toNat 0 + 1) + (a.getD i.toNat default).Factors.length) + szTs a) a i 0 (a.getD i.toNat default)) fun r10 => .i (isL r10) (.k (.inl (getL r10))) (.h ((getR r10).1, (IntKind.i64.wrap ((getR r10).2 + 1)), ()) ()))))) .d) (.k (.inr ()))
def zzQ (zbD : Atom → Bool × Bool) (x : zwR) (y : Unit) : Wy zwR (Unit) (Bool ⊕ Unit) := zmr zbD x.1 x.2.1
def zzS (zbD : Atom → Bool × Bool) (n : Nat) (a : List Term) (i : Int) : Bool × (Bool ⊕ Unit) := zN (zzQ zbD) (.inl default) n (a, i, ()) ()
def zBW (zbD : Atom → Bool × Bool) (a : List Term) : Wy0 (Bool) := .bn (zzo a) fun r15 => .i (!r15) (.k false) (.bn (zzS zbD ((a.length + Int.toNat 0 + 1) + szTs a) a 0) fun r14 => .i (isL r14) (.k (getL r14)) (.k true))
def ztq (zbD : Atom → Bool × Bool) (a : List Term) : Bool × Bool := (zBW zbD a).fin default
abbrev zih := Unit × Int × Unit
def zi9 (zcO : List Term → Bool × Bool) (i : Int) (x_ : Atom) : Wy zih (Atom × Unit) (Bool ⊕ Atom) := .i (decide (i < Int.ofNat x_.Args.length)) (.i (decide (0 ≤ i) && decide (i < Int.ofNat x_.Args.length)) (.i (Int.ofNat (List.length (x_.Args.getD i.toNat default)) == 0) (.k (.inl false)) (.i (decide (0 ≤ i) && decide (i < Int.ofNat x_.Args.length)) (.bn (zcO (x_.Args.getD i.toNat default)) fun r0 => .i (!r0) (.k (.inl false)) (.h ((), (IntKind.i64.wrap (i + 1)), ()) (x_, ()))) .d)) .d) (.k (.inr x_))
def zvL (zcO : List Term → Bool × Bool) (x : zih) (y : Atom × Unit) : Wy zih (Atom × Unit) (Bool ⊕ Atom) := zi9 zcO x.2.1 y.1
def zpi (zcO : List Term → Bool × Bool) (n : Nat) (i : Int) (x_ : Atom) : Bool × (Bool ⊕ Atom) := zN (zvL zcO) (.inl default) n ((), i, ()) (x_, ())
def zin (zcO : List Term → Bool × Bool) (i : Int) (x_ : Atom) : Wy zih (Atom × Unit) (Bool ⊕ Unit) := .i (decide (i < Int.ofNat x_.Items.length)) (.i (decide (0 ≤ i) && decide (i < Int.ofNat x_.Items.length)) (.i (Int.ofNat (x_.Items.getD i.toNat default).Ann.length == 0) (.k (.inl false)) (.i (decide (0 ≤ i) && decide (i < Int.ofNat x_.Items.length)) (.bn (zcO (x_.Items.getD i.toNat default).Ann) fun r3 => .i (!r3) (.k (.inl false)) (.i (decide (i > 0)) (.i (decide (0 ≤ IntKind.i64.wrap (i - 1)) && decide (IntKind.i64.wrap (i - 1) ≤ i) && decide (i ≤ Int.ofNat x_.Items.length)) (.i (decide (0 ≤ i) && decide (i ≤ IntKind.i64.wrap (i + 1)) && decide (IntKind.i64.wrap (i + 1) ≤ Int.ofNat x_.Items.length)) (.bn (zyb (List.take (i.toNat - (IntKind.i64.wrap (i - 1)).toNat) (List.drop (IntKind.i64.wrap (i - 1)).toNat x_.Items)) (List.take ((IntKind.i64.wrap (i + 1)).toNat - i.toNat) (List.drop i.toNat x_.Items))) fun r2 => .i (decide (r2 > 0)) (.k (.inl false)) (.h ((), (IntKind.i64.wrap (i + 1)), ()) (x_, ()))) .d) .d) (.h ((), (IntKind.i64.wrap (i + 1)), ()) (x_, ())))) .d)) .d) (.k (.inr ()))
def zuy (zcO : List Term → Bool × Bool) (x : zih) (y : Atom × Unit) : Wy zih (Atom × Unit) (Bool ⊕ Unit) := zin zcO x.2.1 y.1
def zus (zcO : List Term → Bool × Bool) (n : Nat) (i : Int) (x_ : Atom) : Bool × (Bool ⊕ Unit) := zN (zuy zcO) (.inl default) n ((), i, ()) (x_, ())
def zwl (zcO : List Term → Bool × Bool) (x_ : Atom) : Wy0 (Bool) := .i (x_.Kind == 0) (.i (decide (x_.Row.Table ≥ 1)) (.i (decide (x_.Row.Seq ≥ 1)) (.i (Int.ofNat x_.Args.length == 0) (.bn (zpQ (Atom.mk x_.Kind x_.Row x_.Args x_.Func x_.Items x_.Op x_.Bound)) fun r6 => .k r6) (.k false)) (.k false)) (.k false)) (.i (!(x_.Row.Table == 0 && (x_.Row.Seq == 0 && true))) (.k false) (.bn (zpi zcO ((Int.toNat 0 + 1) + (Atom.mk x_.Kind x_.Row x_.Args x_.Func x_.Items x_.Op x_.Bound).Args.length + (Atom.mk x_.Kind x_.Row x_.Args x_.Func x_.Items x_.Op x_.Bound).Items.length) 0 (Atom.mk x_.Kind x_.Row x_.Args x_.Func x_.Items x_.Op x_.Bound)) fun r17 => .i (isL r17) (.k (getL r17)) (.i ((getR r17).Kind == 1) (.i (Int.ofNat (getR r17).Args.length == 2) (.bn (zpQ (Atom.mk (getR r17).Kind (getR r17).Row (getR r17).Args (getR r17).Func (getR r17).Items (getR r17).Op (getR r17).Bound)) fun r8 => .i (r8) (.i (decide ((0 : Int) ≤ (0 : Int)) && decide (0 < Int.ofNat (getR r17).Args.length)) (.i (decide ((0 : Int) ≤ (1 : Int)) && decide (1 < Int.ofNat (getR r17).Args.length)) (.bn (zvO ((getR r17).Args.getD (Int.toNat 0) default) ((getR r17).Args.getD (Int.toNat 1) default)) fun r7 => .k (!r7)) .d) .d) (.k false)) (.k false)) (.i ((getR r17).Kind == 2) (.i (Int.ofNat (getR r17).Args.length == 1) (.bn (zpQ (Atom.mk (getR r17).Kind (getR r17).Row (getR r17).Args (getR r17).Func (getR r17).Items (getR r17).Op (getR r17).Bound)) fun r12 => .i (r12) (.i (decide ((0 : Int) ≤ (0 : Int)) && decide (0 < Int.ofNat (getR r17).Args.length)) (.i (Int.ofNat (List.length ((getR r17).Args.getD (Int.toNat 0) default)) == 1) (.i (decide ((0 : Int) ≤ (0 : Int)) && decide (0 < Int.ofNat (getR r17).Args.length)) (.bn (zog ((getR r17).Args.getD (Int.toNat 0) default)) fun r10 => .i (!r10) (.i (decide ((0 : Int) ≤ (0 : Int)) && decide (0 < Int.ofNat (getR r17).Args.length)) (.bn (zvJ ((getR r17).Args.getD (Int.toNat 0) default)) fun r9 => .k (!r9)) .d) (.k false)) .d) (.i (decide ((0 : Int) ≤ (0 : Int)) && decide (0 < Int.ofNat (getR r17).Args.length)) (.bn (zvJ ((getR r17).Args.getD (Int.toNat 0) default)) fun r11 => .k (!r11)) .d)) .d) (.k false)) (.k false)) (.i ((getR r17).Kind == 3) (.i (Int.ofNat (getR r17).Args.length == 1) (.bn (zpQ (Atom.mk (getR r17).Kind (getR r17).Row (getR r17).Args (getR r17).Func (getR r17).Items (getR r17).Op (getR r17).Bound)) fun r14 => .i (r14) (.i (decide ((0 : Int) ≤ (0 : Int)) && decide (0 < Int.ofNat (getR r17).Args.length)) (.bn (zog ((getR r17).Args.getD (Int.toNat 0) default)) fun r13 => .k (!r13)) .d) (.k false)) (.k false)) (.i ((getR r17).Kind == 4) (.i (Int.ofNat (getR r17).Args.length != 0) (.k false) (.i (Int.ofNat (getR r17).Items.length == 0) (.k false) (.i (decide (Int.ofNat (getR r17).Items.length > 1024)) (.k false) (.bn (zB7 (getR r17).Func (getR r17).Items (getR r17).Op (getR r17).Bound) fun r16 => .i (!r16) (.k false) (.bn (zus zcO ((Int.toNat 0 + 1) + (Atom.mk (getR r17).Kind (getR r17).Row (getR r17).Args (getR r17).Func (getR r17).Items (getR r17).Op (getR r17).Bound).Args.length + (Atom.mk (getR r17).Kind (getR r17).Row (getR r17).Args (getR r17).Func (getR r17).Items (getR r17).Op (getR r17).Bound).Items.length) 0 (Atom.mk (getR r17).Kind (getR r17).Row (getR r17).Args (getR r17).Func (getR r17).Items (getR r17).Op (getR r17).Bound)) fun r15 => .i (isL r15) (.k (getL r15)) (.k true)))))) (.k false)))))))
def znY (zcO : List Term → Bool × Bool) (x_ : Atom) : Bool × Bool := (zwl zcO x_).fin default
def zzf : Nat → (List Term → Bool × Bool) × (Atom → Bool × Bool)
 | 0 => (fun _ => (false, default), fun _ => (false, default))
 | n + 1 => (ztq ((zzf n).2), znY ((zzf n).1))
def zts (n : Nat) : List Term → Bool × Bool := (zzf n).1
def zsD (n : Nat) : Atom → Bool × Bool := (zzf n).2
theorem zGX (n : Nat) : zts (n + 1) = ztq (zsD n) := rfl
theorem zDQ (n : Nat) : zsD (n + 1) = znY (zts n) := rfl
def zpV : List Term → Bool × Bool := zts 1000
end Go.Proofs.YtnolcogncjijpaaGreatDoor
end
