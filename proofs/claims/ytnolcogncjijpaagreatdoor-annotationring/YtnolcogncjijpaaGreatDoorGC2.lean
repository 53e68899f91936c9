/- Texts of this claim, joined (the program, its functions in plain words, and what they compute). -/
import Derived.WalkKit
import Derived.WalkSpells
import Derived.Test.YtnolcogncjijpaaGreatDoorGC1
import Derived.Test.YtnolcogncjijpaaGreatDoorGA2
import Derived.Test.YtnolcogncjijpaaGreatDoorGB1
set_option autoImplicit false
set_option linter.unusedVariables false
set_option linter.unusedSectionVars false
set_option linter.unusedSimpArgs false
set_option maxRecDepth 1000000
set_option maxHeartbeats 0
noncomputable section
namespace Go.Proofs.YtnolcogncjijpaaGreatDoor
open Go Go.Ab
abbrev ttTslicesIndexFuncLapiAnnotationapiAnnotationv10 := List (List Term) × Unit × Int × Int × Unit
def zkh (ze : List Term → Bool × Bool) (s : List (List Term)) (t7 : Int) (t8 : Int) : Wy ttTslicesIndexFuncLapiAnnotationapiAnnotationv10 (Unit) (Int ⊕ Unit) := .i (decide (t8 < t7)) (.i (decide (0 ≤ t8) && decide (t8 < Int.ofNat s.length)) (.bn (ze (s.getD t8.toNat default)) fun r0 => .i (r0) (.k (.inl t8)) (.h (s, (), t7, (IntKind.i64.wrap (t8 + 1)), ()) ())) .d) (.k (.inr ()))
def zcQ (ze : List Term → Bool × Bool) (x : ttTslicesIndexFuncLapiAnnotationapiAnnotationv10) (y : Unit) : Wy ttTslicesIndexFuncLapiAnnotationapiAnnotationv10 (Unit) (Int ⊕ Unit) := zkh ze x.1 x.2.2.1 x.2.2.2.1
def zkf (ze : List Term → Bool × Bool) (n : Nat) (s : List (List Term)) (t7 : Int) (t8 : Int) : Bool × (Int ⊕ Unit) := zN (zcQ ze) (.inl default) n (s, (), t7, t8, ()) ()
def zew (r : Int ⊕ Unit) : LTree ty := .ite (isL r) (.done .ret [.lit (.int .i64 (getL r))] []) (.done (.exit 0) [] [])
def zeC : LL ty ttTslicesIndexFuncLapiAnnotationapiAnnotationv10 := za (lSl 23) (za (lFn 130 (zT)) (za (lInt .i64) (za (lInt .i64) zT)))
def zeD : BL ty (Unit) := bNil
def zet (x : ttTslicesIndexFuncLapiAnnotationapiAnnotationv10) (y : Unit) : Nat := (x.1.length + Int.toNat x.2.2.1 + Int.toNat x.2.2.2.1 + 1)
def zeB (ze : List Term → Bool × Bool) : Cx ty := mkCx base 19 [(130, (zcI ze))] [] [(2, [(0, .keep), (1, .keep), (7, .keep), (8, .keep)])] [(2, 1, []), (2, 0, [(4, .keep)])] [(2, spW zeC zeD (zcQ ze) (.inl default) zew zet)] []
theorem zj0 (ze : List Term → Bool × Bool) : zbr (zeB ze) (lp (body Tryz.f163) 0) := zZ (id := 2) (V := zeC) (B := zeD) (W := zcQ ze) (z := .inl default) (tr := zew) (m := zet)
def zeI (ze : List Term → Bool × Bool) (s : List (List Term)) : Wy0 (Int) := .bn (zkf ze (s.length + (Int.ofNat s.length).toNat + Int.toNat 0 + 1) s (Int.ofNat s.length) 0) fun r2 => .i (isL r2) (.k (getL r2)) (.k (-1 : Int))
def zb7 (ze : List Term → Bool × Bool) (s : List (List Term)) : Bool × Int := (zeI ze s).fin default
theorem zjt (ze : List Term → Bool × Bool) (zeJ : Sound Tryz.prog base 130 (zcI ze)) : Sound Tryz.prog base 163 (zb6 (zb7 ze)) :=
 zF (cx' := (zeB ze)) zR zB zL (zG ⟨zeJ, trivial⟩) Tryz.call163 Tryz.func163 (c := body Tryz.f163) (by kernel_rfl) (zj (l := [lp (body Tryz.f163) 0]) (by kernel_rfl) ⟨zj0 ze, trivial⟩) (sg := ⟨[.pure], []⟩) (A := zfb) (res := zeH) (W := fun x => zeI ze x.1) (z := default)
abbrev ttTslicesIndexFuncLapiWeightedapiWeightedv20 := List Weighted × Unit × Int × Int × Unit
def zld (zd : Weighted → Bool × Bool) (s : List Weighted) (t7 : Int) (t8 : Int) : Wy ttTslicesIndexFuncLapiWeightedapiWeightedv20 (Unit) (Int ⊕ Unit) := .i (decide (t8 < t7)) (.i (decide (0 ≤ t8) && decide (t8 < Int.ofNat s.length)) (.bn (zd (s.getD t8.toNat default)) fun r0 => .i (r0) (.k (.inl t8)) (.h (s, (), t7, (IntKind.i64.wrap (t8 + 1)), ()) ())) .d) (.k (.inr ()))
def zdo (zd : Weighted → Bool × Bool) (x : ttTslicesIndexFuncLapiWeightedapiWeightedv20) (y : Unit) : Wy ttTslicesIndexFuncLapiWeightedapiWeightedv20 (Unit) (Int ⊕ Unit) := zld zd x.1 x.2.2.1 x.2.2.2.1
def zll (zd : Weighted → Bool × Bool) (n : Nat) (s : List Weighted) (t7 : Int) (t8 : Int) : Bool × (Int ⊕ Unit) := zN (zdo zd) (.inl default) n (s, (), t7, t8, ()) ()
def ze3 (r : Int ⊕ Unit) : LTree ty := .ite (isL r) (.done .ret [.lit (.int .i64 (getL r))] []) (.done (.exit 0) [] [])
def zfx : LL ty ttTslicesIndexFuncLapiWeightedapiWeightedv20 := za (lSl 52) (za (lFn 131 (zT)) (za (lInt .i64) (za (lInt .i64) zT)))
def zfz : BL ty (Unit) := bNil
def ze9 (x : ttTslicesIndexFuncLapiWeightedapiWeightedv20) (y : Unit) : Nat := (x.1.length + Int.toNat x.2.2.1 + Int.toNat x.2.2.2.1 + 1)
def zfn (zd : Weighted → Bool × Bool) : Cx ty := mkCx base 19 [(131, (zcK zd))] [] [(2, [(0, .keep), (1, .keep), (7, .keep), (8, .keep)])] [(2, 1, []), (2, 0, [(4, .keep)])] [(2, spW zfx zfz (zdo zd) (.inl default) ze3 ze9)] []
theorem zk2 (zd : Weighted → Bool × Bool) : zbr (zfn zd) (lp (body Tryz.f135) 0) := zZ (id := 2) (V := zfx) (B := zfz) (W := zdo zd) (z := .inl default) (tr := ze3) (m := ze9)
def zfM (zd : Weighted → Bool × Bool) (s : List Weighted) : Wy0 (Int) := .bn (zll zd (s.length + (Int.ofNat s.length).toNat + Int.toNat 0 + 1) s (Int.ofNat s.length) 0) fun r2 => .i (isL r2) (.k (getL r2)) (.k (-1 : Int))
def zcn (zd : Weighted → Bool × Bool) (s : List Weighted) : Bool × Int := (zfM zd s).fin default
theorem zks (zd : Weighted → Bool × Bool) (zeM : Sound Tryz.prog base 131 (zcK zd)) : Sound Tryz.prog base 135 (zcr (zcn zd)) :=
 zF (cx' := (zfn zd)) zR zB zL (zG ⟨zeM, trivial⟩) Tryz.call135 Tryz.func135 (c := body Tryz.f135) (by kernel_rfl) (zj (l := [lp (body Tryz.f135) 0]) (by kernel_rfl) ⟨zk2 zd, trivial⟩) (sg := ⟨[.pure], []⟩) (A := zgB) (res := zfG) (W := fun x => zfM zd x.1) (z := default)
def zdw : Nat → (List Term → Bool × Bool) × (Atom → Bool × Bool) × (List Term → Bool × Bool) × (Weighted → Bool × Bool) × (List (List Term) → Bool × Int) × (List (List Term) → Bool × Bool) × (List Weighted → Bool × Int) × (List Weighted → Bool × Bool)
 | 0 => (fun _ => (false, default), fun _ => (false, default), fun _ => (false, default), fun _ => (false, default), fun _ => (false, default), fun _ => (false, default), fun _ => (false, default), fun _ => (false, default))
 | n + 1 => (zkB ((zdw n).2.1), zhV ((zdw n).2.2.2.2.2.2.2) ((zdw n).2.2.2.2.2.1) ((zdw n).2.2.1) ((zdw n).2.2.2.1), ziu ((zdw n).1), zir ((zdw n).1), zb7 ((zdw n).2.2.1), zbT ((zdw n).2.2.1) ((zdw n).2.2.2.2.1), zcn ((zdw n).2.2.2.1), zcd ((zdw n).2.2.2.1) ((zdw n).2.2.2.2.2.2.1))
def zio (n : Nat) : List Term → Bool × Bool := (zdw n).1
def zka (n : Nat) : Atom → Bool × Bool := (zdw n).2.1
def zeg (n : Nat) : List Term → Bool × Bool := (zdw n).2.2.1
def zee (n : Nat) : Weighted → Bool × Bool := (zdw n).2.2.2.1
def zb5 (n : Nat) : List (List Term) → Bool × Int := (zdw n).2.2.2.2.1
def zbS (n : Nat) : List (List Term) → Bool × Bool := (zdw n).2.2.2.2.2.1
def zco (n : Nat) : List Weighted → Bool × Int := (zdw n).2.2.2.2.2.2.1
def zcc (n : Nat) : List Weighted → Bool × Bool := (zdw n).2.2.2.2.2.2.2
theorem zCK (n : Nat) : zio (n + 1) = zkB (zka n) := rfl
theorem zzE (n : Nat) : zka (n + 1) = zhV (zcc n) (zbS n) (zeg n) (zee n) := rfl
theorem zw5 (n : Nat) : zeg (n + 1) = ziu (zio n) := rfl
theorem zwN (n : Nat) : zee (n + 1) = zir (zio n) := rfl
theorem zki (n : Nat) : zb5 (n + 1) = zb7 (zeg n) := rfl
theorem zjv (n : Nat) : zbS (n + 1) = zbT (zeg n) (zb5 n) := rfl
theorem zlo (n : Nat) : zco (n + 1) = zcn (zee n) := rfl
theorem zkI (n : Nat) : zcc (n + 1) = zcd (zee n) (zco n) := rfl
theorem zGE : ∀ n, Sound Tryz.prog base 31 (zgu (zio n)) ∧ Sound Tryz.prog base 74 (zkc (zka n)) ∧ Sound Tryz.prog base 130 (zcI (zeg n)) ∧ Sound Tryz.prog base 131 (zcK (zee n)) ∧ Sound Tryz.prog base 163 (zb6 (zb5 n)) ∧ Sound Tryz.prog base 129 (zbW (zbS n)) ∧ Sound Tryz.prog base 135 (zcr (zco n)) ∧ Sound Tryz.prog base 76 (zcf (zcc n))
 | 0 => ⟨zbB Tryz.call31 (fun _ => rfl), zbB Tryz.call74 (fun _ => rfl), zbB Tryz.call130 (fun _ => rfl), zbB Tryz.call131 (fun _ => rfl), zbB Tryz.call163 (fun _ => rfl), zbB Tryz.call129 (fun _ => rfl), zbB Tryz.call135 (fun _ => rfl), zbB Tryz.call76 (fun _ => rfl)⟩
 | n + 1 => by
  have ih := zGE n
  exact ⟨zzP _ (ih.2.1), zwU _ _ _ _ (ih.2.2.2.2.2.2.2) (ih.2.2.2.2.2.1) (ih.2.2.1) (ih.2.2.2.1), zuC _ (ih.1), zuG _ (ih.1), zjt _ (ih.2.2.1), ziH _ _ (ih.2.2.1) (ih.2.2.2.2.1), zks _ (ih.2.2.2.1), zjV _ _ (ih.2.2.2.1) (ih.2.2.2.2.2.2.1)⟩
def zbE : List Term → Bool × Bool := zio 1000
def annotation_Valid_spec : Ab.Spec ty := zgu zbE
theorem zcm : Sound Tryz.prog base 31 annotation_Valid_spec := (zGE 1000).1
def zvg (k : Go.Value) (l : List (Go.Value × Int)) : Option Int := mget (ty := ty) (V := 3) k l
def zNm (k : Go.Value) (l : List (Go.Value × Int)) : Bool := mhas (ty := ty) (V := 3) k l
def zM6 (k : Go.Value) (x : Int) (l : List (Go.Value × Int)) : List (Go.Value × Int) := mset (ty := ty) (V := 3) k x l
def zv4 (r : ByteArray) : ARes ty := ⟨[.pure (.lit (.string r))], []⟩
def zy7 : AL base0 (List Term × Unit) := zf (zg (vSl 42)) aNil
def zli (F : List Term → Bool × ByteArray) : Ab.Spec ty := zr zy7 fun x => ((F x.1).1, zv4 (F x.1).2)
def zqk (r : ByteArray) : ARes ty := ⟨[.pure (.lit (.string r))], []⟩
def zr2 : AL base0 (Atom × Unit) := zf (zg (vAgg 48)) aNil
def zjH (F : Atom → Bool × ByteArray) : Ab.Spec ty := zr zr2 fun x => ((F x.1).1, zqk (F x.1).2)
def zof (r : ByteArray) : ARes ty := ⟨[.pure (.lit (.string r))], []⟩
def zpr : AL base0 (List Factor × Unit) := zf (zg (vSl 50)) aNil
def zfd (F : List Factor → Bool × ByteArray) : Ab.Spec ty := zr zpr fun x => ((F x.1).1, zof (F x.1).2)
def zBa : Cx ty := mkCx base 2 [] [] [] [] [] []
def zsM : Wy0 (List ByteArray) := .k [ByteArray.mk #[(67 : UInt8), (79 : UInt8), (85 : UInt8), (78 : UInt8), (84 : UInt8)], ByteArray.mk #[(83 : UInt8), (85 : UInt8), (77 : UInt8)], ByteArray.mk #[(77 : UInt8), (73 : UInt8), (78 : UInt8)], ByteArray.mk #[(77 : UInt8), (65 : UInt8), (88 : UInt8)]]
def zbI : Bool × List ByteArray := (zsM).fin default
def zqX (r : List ByteArray) : ARes ty := ⟨[.own 9 r], []⟩
def zs9 : AL base (Unit) := aNil
def zqp : Ab.Spec ty := zr zs9 fun x => ((zbI ).1, zqX (zbI ).2)
theorem zyI : Sound Tryz.prog base 174 zqp :=
 zF (cx' := zBa) zR zB zL (zG trivial) Tryz.call174 Tryz.func174 (c := body Tryz.f174) (by kernel_rfl) (zj (l := []) (by kernel_rfl) trivial) (sg := ⟨[.own 9], []⟩) (A := zs9) (res := zqX) (W := fun x => zsM ) (z := default)
def zBe : Cx ty := mkCx base 2 [] [] [] [] [] []
def zsL : Wy0 (List ByteArray) := .k [ByteArray.mk #[(61 : UInt8)], ByteArray.mk #[(60 : UInt8), (62 : UInt8)], ByteArray.mk #[(60 : UInt8)], ByteArray.mk #[(60 : UInt8), (61 : UInt8)], ByteArray.mk #[(62 : UInt8)], ByteArray.mk #[(62 : UInt8), (61 : UInt8)]]
def zcR : Bool × List ByteArray := (zsL).fin default
def zrE (r : List ByteArray) : ARes ty := ⟨[.own 9 r], []⟩
def zs4 : AL base (Unit) := aNil
def zqi : Ab.Spec ty := zr zs4 fun x => ((zcR ).1, zrE (zcR ).2)
theorem zyp : Sound Tryz.prog base 175 zqi :=
 zF (cx' := zBe) zR zB zL (zG trivial) Tryz.call175 Tryz.func175 (c := body Tryz.f175) (by kernel_rfl) (zj (l := []) (by kernel_rfl) trivial) (sg := ⟨[.own 9], []⟩) (A := zs4) (res := zrE) (W := fun x => zsL ) (z := default)
def strings_Join (l : List ByteArray) (sep : ByteArray) : Bool × ByteArray := zF9 l sep
def strings_Join_spec : Ab.Spec ty := zr (cx := base0) (zf (zg (vSl 9)) (zf (zg vStr) aNil)) fun x => ((strings_Join x.1 x.2.1).1, ⟨[.pure (.lit (.string (strings_Join x.1 x.2.1).2))], []⟩)
theorem zq7 : Sound Tryz.prog base0 152 strings_Join_spec := zMZ (T := 9) zic rfl Go.Proofs.Tryz.lays156 Go.Proofs.Tryz.Builder_Extra_156 Tryz.call152 (fun s : ByteArray => s) (fun _ => rfl) strings_Join (fun l sep => congrArg (fun l => zF9 l sep) (List.map_id' (α := ByteArray) l).symm)
def strconv_Itoa (x : Int) : Bool × ByteArray := zDO x
def strconv_Itoa_spec : Ab.Spec ty := zr (cx := base) (zf (zg (vInt .i64)) aNil) fun x => ((strconv_Itoa x.1).1, ⟨[.pure (.lit (.string (strconv_Itoa x.1).2))], []⟩)
theorem zxK : Sound Tryz.prog base 154 strconv_Itoa_spec := zM3 zB Go.Proofs.Tryz.laysM171 Tryz.call154 (fun _ h => h.1)
def zG7 : Cx ty := mkCx base 15 [(69, znW), (154, strconv_Itoa_spec)] [] [] [] [] []
def zu0 (id : RowID) : Wy0 (ByteArray) := .bn (zmb id) fun r2 => .i (!r2) (.k (ByteArray.mk #[])) (.bn (strconv_Itoa id.Table) fun r1 => .i (decide ((ByteArray.mk #[(116 : UInt8)]).size + r1.size ≤ 9223372036854775807)) (.i (decide ((ByteArray.mk #[(116 : UInt8)] ++ r1).size + (ByteArray.mk #[(46 : UInt8)]).size ≤ 9223372036854775807)) (.bn (strconv_Itoa id.Seq) fun r0 => .i (decide ((ByteArray.mk #[(116 : UInt8)] ++ r1 ++ ByteArray.mk #[(46 : UInt8)]).size + r0.size ≤ 9223372036854775807)) (.k (ByteArray.mk #[(116 : UInt8)] ++ r1 ++ ByteArray.mk #[(46 : UInt8)] ++ r0)) .d) .d) .d)
def zpM (id : RowID) : Bool × ByteArray := (zu0 id).fin default
def zy8 (r : ByteArray) : ARes ty := ⟨[.pure (.lit (.string r))], []⟩
def zBB : AL base (RowID × Unit) := zf (zg (vAgg 25)) aNil
def zxM : Ab.Spec ty := zr zBB fun x => ((zpM x.1).1, zy8 (zpM x.1).2)
theorem zEL : Sound Tryz.prog base 172 zxM :=
 zF (cx' := zG7) zR zB zL (zG ⟨zro, zxK, trivial⟩) Tryz.call172 Tryz.func172 (c := body Tryz.f172) (by kernel_rfl) (zj (l := []) (by kernel_rfl) trivial) (sg := ⟨[.pure], []⟩) (A := zBB) (res := zy8) (W := fun x => zu0 x.1) (z := default)
def zhz (m b : Int) : Bool × ByteArray := zo9 m b
def strconv_FormatInt_spec : Ab.Spec ty := zr (cx := base) (zf (zg (vInt .i64)) (zf (zg (vInt .i64)) aNil)) fun x => ((zhz x.1 x.2.1).1, ⟨[.pure (.lit (.string (zhz x.1 x.2.1).2))], []⟩)
theorem zsb : Sound Tryz.prog base 151 strconv_FormatInt_spec := zHR zB Go.Proofs.Tryz.laysM173 Tryz.call151 (fun _ h => h.1)
def strings_ReplaceAll (s p q : ByteArray) : Bool × ByteArray := zlT s p q
def strings_ReplaceAll_spec : Ab.Spec ty := zr (cx := base0) (zf (zg vStr) (zf (zg vStr) (zf (zg vStr) aNil))) fun x => ((strings_ReplaceAll x.1 x.2.1 x.2.2.1).1, ⟨[.pure (.lit (.string (strings_ReplaceAll x.1 x.2.1 x.2.2.1).2))], []⟩)
theorem zAA : Sound Tryz.prog base0 203 strings_ReplaceAll_spec := zG3 zic rfl Go.Proofs.Tryz.lays155 Go.Proofs.Tryz.Builder_Extra_155 Tryz.call203 (fun _ h => h.2)
def zHx : Cx ty := mkCx base0 27 [(133, zo5), (151, strconv_FormatInt_spec), (203, strings_ReplaceAll_spec)] [] [] [] [] []
def zwD (v : Value) : Wy0 (ByteArray) := .bn (znw v) fun r2 => .i (!r2) (.k (ByteArray.mk #[])) (.i (v.Kind == 0) (.bn (zhz v.Int 10) fun r0 => .k r0) (.i (v.Kind == 1) (.bn (strings_ReplaceAll v.Text (ByteArray.mk #[(39 : UInt8)]) (ByteArray.mk #[(39 : UInt8), (39 : UInt8)])) fun r1 => .i (decide ((ByteArray.mk #[(39 : UInt8)]).size + r1.size ≤ 9223372036854775807)) (.i (decide ((ByteArray.mk #[(39 : UInt8)] ++ r1).size + (ByteArray.mk #[(39 : UInt8)]).size ≤ 9223372036854775807)) (.k (ByteArray.mk #[(39 : UInt8)] ++ r1 ++ ByteArray.mk #[(39 : UInt8)])) .d) .d) (.i (v.Int == 1) (.k (ByteArray.mk #[(84 : UInt8), (82 : UInt8), (85 : UInt8), (69 : UInt8)])) (.k (ByteArray.mk #[(70 : UInt8), (65 : UInt8), (76 : UInt8), (83 : UInt8), (69 : UInt8)])))))
def zn3 (v : Value) : Bool × ByteArray := (zwD v).fin default
def zAT (r : ByteArray) : ARes ty := ⟨[.pure (.lit (.string r))], []⟩
def zCD : AL base0 (Value × Unit) := zf (zg (vAgg 46)) aNil
def zyR : Ab.Spec ty := zr zCD fun x => ((zn3 x.1).1, zAT (zn3 x.1).2)
theorem zFE : Sound Tryz.prog base0 173 zyR :=
 zF (cx' := zHx) zR zic zL (zG ⟨zsG.nodr, zsb.nodr, zAA, trivial⟩) Tryz.call173 Tryz.func173 (c := body Tryz.f173) (by kernel_rfl) (zj (l := []) (by kernel_rfl) trivial) (sg := ⟨[.pure], []⟩) (A := zCD) (res := zAT) (W := fun x => zwD x.1) (z := default)
abbrev ttTannotationformatAtom0 := Unit × Unit × List Weighted × Int × Int × Unit
abbrev ttTannotationformatAtom1 := Atom × List ByteArray × Unit
abbrev ttTannotationformatAtom2 := Atom × List ByteArray
def zeN (zW : List Term → Bool × ByteArray) (t48 : List Weighted) (t49 : Int) (t50 : Int) (x_ : Atom) (items : List ByteArray) : Wy ttTannotationformatAtom0 ttTannotationformatAtom1 ttTannotationformatAtom2 := .i (decide (t50 < t49)) (.i (decide (0 ≤ t50) && decide (t50 < Int.ofNat t48.length)) (.bn (zn3 (t48.getD t50.toNat default).Value) fun r1 => .i (decide (r1.size + (ByteArray.mk #[(58 : UInt8), (32 : UInt8)]).size ≤ 9223372036854775807)) (.bn (zW (t48.getD t50.toNat default).Ann) fun r0 => .i (decide ((r1 ++ ByteArray.mk #[(58 : UInt8), (32 : UInt8)]).size + r0.size ≤ 9223372036854775807)) (.i (decide ((items.length + [r1 ++ ByteArray.mk #[(58 : UInt8), (32 : UInt8)] ++ r0].length) * 16 ≤ zP)) (.h ((), (), t48, t49, (IntKind.i64.wrap (t50 + 1)), ()) (x_, (items ++ [r1 ++ ByteArray.mk #[(58 : UInt8), (32 : UInt8)] ++ r0]), ())) .d) .d) .d) .d) (.k (x_, items))
def zhO (zW : List Term → Bool × ByteArray) (x : ttTannotationformatAtom0) (y : ttTannotationformatAtom1) : Wy ttTannotationformatAtom0 ttTannotationformatAtom1 ttTannotationformatAtom2 := zeN zW x.2.2.1 x.2.2.2.1 x.2.2.2.2.1 y.1 y.2.1
def zoW (zW : List Term → Bool × ByteArray) (n : Nat) (t48 : List Weighted) (t49 : Int) (t50 : Int) (x_ : Atom) (items : List ByteArray) : Bool × ttTannotationformatAtom2 := zN (zhO zW) default n ((), (), t48, t49, t50, ()) (x_, items, ())
def zod (r : ttTannotationformatAtom2) : LTree ty := .done (.exit 1) [.ptr 360 0, .own 361] [.box (base.enc 48 r.1) false, .arr 9 r.2 false]
def zoN : LL ty ttTannotationformatAtom0 := za (zqn 360 0) (za (lOwn 361) (za (lSl 52) (za (lInt .i64) (za (lInt .i64) zT))))
def zoX : BL ty ttTannotationformatAtom1 := bBox (ztu (fun x => (⟨x.1, ⟨x.2.1, x.2.2.1⟩, x.2.2.2.1, x.2.2.2.2.1, x.2.2.2.2.2.1, x.2.2.2.2.2.2.1, ⟨x.2.2.2.2.2.2.2.1, x.2.2.2.2.2.2.2.2.1, x.2.2.2.2.2.2.2.2.2.1⟩⟩ : Atom)) (fun x => (x.Kind, x.Row.Table, x.Row.Seq, x.Args, x.Func, x.Items, x.Op, x.Bound.Kind, x.Bound.Int, x.Bound.Text, ())) (fun _ => rfl) (za (lInt .i64) (za (lInt .i64) (za (lInt .i64) (za (lSl 23) (za (lInt .i64) (za (lSl 52) (za (lInt .i64) (za (lInt .i64) (za (lInt .i64) (za lStr zT))))))))))) false (bArr 9 false (bNil))
def zoo (x : ttTannotationformatAtom0) (y : ttTannotationformatAtom1) : Nat := (x.2.2.1.length + Int.toNat x.2.2.2.1 + Int.toNat x.2.2.2.2.1 + y.1.Args.length + y.1.Items.length + y.2.1.length + 1)
def zpG (zW : List Term → Bool × ByteArray) : Cx ty := mkCx base0 90 [(109, (zli zW)), (152, strings_Join_spec), (172, zxM), (173, zyR), (174, zqp), (175, zqi)] [] [(12, [(1, .keep), (3, .own 9), (48, .keep), (49, .keep), (50, .keep)])] [(12, 2, [(1, .keep), (3, .keep)])] [(12, spW zoN zoX (zhO zW) default zod zoo)] []
theorem zwL (zW : List Term → Bool × ByteArray) : zbr (zpG zW) (lp (body Tryz.f153) 0) := zZ (id := 12) (V := zoN) (B := zoX) (W := zhO zW) (z := default) (tr := zod) (m := zoo)
def zlP (zW : List Term → Bool × ByteArray) (x_ : Atom) : Wy0 (ByteArray) := .i (x_.Kind == 0) (.bn (zpM x_.Row) fun r4 => .k r4) (.i (x_.Kind == 1) (.i (decide ((0 : Int) ≤ (0 : Int)) && decide (0 < Int.ofNat x_.Args.length)) (.bn (zW (x_.Args.getD (Int.toNat 0) default)) fun r6 => .i (decide ((ByteArray.mk #[(109 : UInt8), (111 : UInt8), (110 : UInt8), (117 : UInt8), (115 : UInt8), (91 : UInt8)]).size + r6.size ≤ 9223372036854775807)) (.i (decide ((ByteArray.mk #[(109 : UInt8), (111 : UInt8), (110 : UInt8), (117 : UInt8), (115 : UInt8), (91 : UInt8)] ++ r6).size + (ByteArray.mk #[(44 : UInt8), (32 : UInt8)]).size ≤ 9223372036854775807)) (.i (decide ((0 : Int) ≤ (1 : Int)) && decide (1 < Int.ofNat x_.Args.length)) (.bn (zW (x_.Args.getD (Int.toNat 1) default)) fun r5 => .i (decide ((ByteArray.mk #[(109 : UInt8), (111 : UInt8), (110 : UInt8), (117 : UInt8), (115 : UInt8), (91 : UInt8)] ++ r6 ++ ByteArray.mk #[(44 : UInt8), (32 : UInt8)]).size + r5.size ≤ 9223372036854775807)) (.i (decide ((ByteArray.mk #[(109 : UInt8), (111 : UInt8), (110 : UInt8), (117 : UInt8), (115 : UInt8), (91 : UInt8)] ++ r6 ++ ByteArray.mk #[(44 : UInt8), (32 : UInt8)] ++ r5).size + (ByteArray.mk #[(93 : UInt8)]).size ≤ 9223372036854775807)) (.k (ByteArray.mk #[(109 : UInt8), (111 : UInt8), (110 : UInt8), (117 : UInt8), (115 : UInt8), (91 : UInt8)] ++ r6 ++ ByteArray.mk #[(44 : UInt8), (32 : UInt8)] ++ r5 ++ ByteArray.mk #[(93 : UInt8)])) .d) .d) .d) .d) .d) .d) (.i (x_.Kind == 2) (.i (decide ((0 : Int) ≤ (0 : Int)) && decide (0 < Int.ofNat x_.Args.length)) (.bn (zW (x_.Args.getD (Int.toNat 0) default)) fun r7 => .i (decide ((ByteArray.mk #[(100 : UInt8), (101 : UInt8), (108 : UInt8), (116 : UInt8), (97 : UInt8), (91 : UInt8)]).size + r7.size ≤ 9223372036854775807)) (.i (decide ((ByteArray.mk #[(100 : UInt8), (101 : UInt8), (108 : UInt8), (116 : UInt8), (97 : UInt8), (91 : UInt8)] ++ r7).size + (ByteArray.mk #[(93 : UInt8)]).size ≤ 9223372036854775807)) (.k (ByteArray.mk #[(100 : UInt8), (101 : UInt8), (108 : UInt8), (116 : UInt8), (97 : UInt8), (91 : UInt8)] ++ r7 ++ ByteArray.mk #[(93 : UInt8)])) .d) .d) .d) (.i (x_.Kind == 3) (.i (decide ((0 : Int) ≤ (0 : Int)) && decide (0 < Int.ofNat x_.Args.length)) (.bn (zW (x_.Args.getD (Int.toNat 0) default)) fun r8 => .i (decide ((ByteArray.mk #[(97 : UInt8), (98 : UInt8), (115 : UInt8), (101 : UInt8), (110 : UInt8), (116 : UInt8), (91 : UInt8)]).size + r8.size ≤ 9223372036854775807)) (.i (decide ((ByteArray.mk #[(97 : UInt8), (98 : UInt8), (115 : UInt8), (101 : UInt8), (110 : UInt8), (116 : UInt8), (91 : UInt8)] ++ r8).size + (ByteArray.mk #[(93 : UInt8)]).size ≤ 9223372036854775807)) (.k (ByteArray.mk #[(97 : UInt8), (98 : UInt8), (115 : UInt8), (101 : UInt8), (110 : UInt8), (116 : UInt8), (91 : UInt8)] ++ r8 ++ ByteArray.mk #[(93 : UInt8)])) .d) .d) .d) (.bn (zoW zW (x_.Items.length + (Int.ofNat x_.Items.length).toNat + Int.toNat 0 + x_.Args.length + x_.Items.length + 0 + 1) x_.Items (Int.ofNat x_.Items.length) 0 (Atom.mk x_.Kind x_.Row x_.Args x_.Func x_.Items x_.Op x_.Bound) []) fun r11 => .i (decide (0 ≤ r11.1.Func) && decide (r11.1.Func < Int.ofNat zbI.2.length)) (.i (decide ((ByteArray.mk #[(116 : UInt8), (101 : UInt8), (115 : UInt8), (116 : UInt8), (91 : UInt8)]).size + ByteArray.size (zbI.2.getD r11.1.Func.toNat default) ≤ 9223372036854775807)) (.i (decide ((ByteArray.mk #[(116 : UInt8), (101 : UInt8), (115 : UInt8), (116 : UInt8), (91 : UInt8)] ++ zbI.2.getD r11.1.Func.toNat default).size + (ByteArray.mk #[(123 : UInt8)]).size ≤ 9223372036854775807)) (.bn (strings_Join r11.2 (ByteArray.mk #[(59 : UInt8), (32 : UInt8)])) fun r10 => .i (decide ((ByteArray.mk #[(116 : UInt8), (101 : UInt8), (115 : UInt8), (116 : UInt8), (91 : UInt8)] ++ zbI.2.getD r11.1.Func.toNat default ++ ByteArray.mk #[(123 : UInt8)]).size + r10.size ≤ 9223372036854775807)) (.i (decide ((ByteArray.mk #[(116 : UInt8), (101 : UInt8), (115 : UInt8), (116 : UInt8), (91 : UInt8)] ++ zbI.2.getD r11.1.Func.toNat default ++ ByteArray.mk #[(123 : UInt8)] ++ r10).size + (ByteArray.mk #[(125 : UInt8), (32 : UInt8)]).size ≤ 9223372036854775807)) (.i (decide (0 ≤ IntKind.i64.wrap (r11.1.Op - 5)) && decide (IntKind.i64.wrap (r11.1.Op - 5) < Int.ofNat zcR.2.length)) (.i (decide ((ByteArray.mk #[(116 : UInt8), (101 : UInt8), (115 : UInt8), (116 : UInt8), (91 : UInt8)] ++ zbI.2.getD r11.1.Func.toNat default ++ ByteArray.mk #[(123 : UInt8)] ++ r10 ++ ByteArray.mk #[(125 : UInt8), (32 : UInt8)]).size + ByteArray.size (zcR.2.getD (IntKind.i64.wrap (r11.1.Op - 5)).toNat default) ≤ 9223372036854775807)) (.i (decide ((ByteArray.mk #[(116 : UInt8), (101 : UInt8), (115 : UInt8), (116 : UInt8), (91 : UInt8)] ++ zbI.2.getD r11.1.Func.toNat default ++ ByteArray.mk #[(123 : UInt8)] ++ r10 ++ ByteArray.mk #[(125 : UInt8), (32 : UInt8)] ++ zcR.2.getD (IntKind.i64.wrap (r11.1.Op - 5)).toNat default).size + (ByteArray.mk #[(32 : UInt8)]).size ≤ 9223372036854775807)) (.bn (zn3 r11.1.Bound) fun r9 => .i (decide ((ByteArray.mk #[(116 : UInt8), (101 : UInt8), (115 : UInt8), (116 : UInt8), (91 : UInt8)] ++ zbI.2.getD r11.1.Func.toNat default ++ ByteArray.mk #[(123 : UInt8)] ++ r10 ++ ByteArray.mk #[(125 : UInt8), (32 : UInt8)] ++ zcR.2.getD (IntKind.i64.wrap (r11.1.Op - 5)).toNat default ++ ByteArray.mk #[(32 : UInt8)]).size + r9.size ≤ 9223372036854775807)) (.i (decide ((ByteArray.mk #[(116 : UInt8), (101 : UInt8), (115 : UInt8), (116 : UInt8), (91 : UInt8)] ++ zbI.2.getD r11.1.Func.toNat default ++ ByteArray.mk #[(123 : UInt8)] ++ r10 ++ ByteArray.mk #[(125 : UInt8), (32 : UInt8)] ++ zcR.2.getD (IntKind.i64.wrap (r11.1.Op - 5)).toNat default ++ ByteArray.mk #[(32 : UInt8)] ++ r9).size + (ByteArray.mk #[(93 : UInt8)]).size ≤ 9223372036854775807)) (.k (ByteArray.mk #[(116 : UInt8), (101 : UInt8), (115 : UInt8), (116 : UInt8), (91 : UInt8)] ++ zbI.2.getD r11.1.Func.toNat default ++ ByteArray.mk #[(123 : UInt8)] ++ r10 ++ ByteArray.mk #[(125 : UInt8), (32 : UInt8)] ++ zcR.2.getD (IntKind.i64.wrap (r11.1.Op - 5)).toNat default ++ ByteArray.mk #[(32 : UInt8)] ++ r9 ++ ByteArray.mk #[(93 : UInt8)])) .d) .d) .d) .d) .d) .d) .d) .d) .d) .d))))
def zhg (zW : List Term → Bool × ByteArray) (x_ : Atom) : Bool × ByteArray := (zlP zW x_).fin default
theorem zvT (zW : List Term → Bool × ByteArray) (zEB : Sound Tryz.prog base0 109 (zli zW)) : Sound Tryz.prog base0 153 (zjH (zhg zW)) :=
 zF (cx' := (zpG zW)) zR zic zL (zG ⟨zEB, zq7, zEL.nodr, zFE, zyI.nodr, zyp.nodr, trivial⟩) Tryz.call153 Tryz.func153 (c := body Tryz.f153) (by kernel_rfl) (zj (l := [lp (body Tryz.f153) 0]) (by kernel_rfl) ⟨zwL zW, trivial⟩) (sg := ⟨[.pure], []⟩) (A := zr2) (res := zqk) (W := fun x => zlP zW x.1) (z := default)
abbrev ttTannotationformatFactors0 := Unit × List Factor × Int × Int × Unit
abbrev ttTannotationformatFactors1 := List ByteArray × Unit
def zei (zQ : Atom → Bool × ByteArray) (t7 : List Factor) (t8 : Int) (t9 : Int) (out_ : List ByteArray) : Wy ttTannotationformatFactors0 ttTannotationformatFactors1 (List ByteArray) := .i (decide (t9 < t8)) (.i (decide (0 ≤ t9) && decide (t9 < Int.ofNat t7.length)) (.bn (zQ (Atom.mk (t7.getD t9.toNat default).Atom.Kind (t7.getD t9.toNat default).Atom.Row (t7.getD t9.toNat default).Atom.Args (t7.getD t9.toNat default).Atom.Func (t7.getD t9.toNat default).Atom.Items (t7.getD t9.toNat default).Atom.Op (t7.getD t9.toNat default).Atom.Bound)) fun r1 => .i ((t7.getD t9.toNat default).Exp != 1) (.bn (strconv_Itoa (t7.getD t9.toNat default).Exp) fun r0 => .i (decide ((ByteArray.mk #[(94 : UInt8)]).size + r0.size ≤ 9223372036854775807)) (.i (decide (r1.size + (ByteArray.mk #[(94 : UInt8)] ++ r0).size ≤ 9223372036854775807)) (.i (decide ((out_.length + [r1 ++ (ByteArray.mk #[(94 : UInt8)] ++ r0)].length) * 16 ≤ zP)) (.h ((), t7, t8, (IntKind.i64.wrap (t9 + 1)), ()) ((out_ ++ [r1 ++ (ByteArray.mk #[(94 : UInt8)] ++ r0)]), ())) .d) .d) .d) (.i (decide ((out_.length + [r1].length) * 16 ≤ zP)) (.h ((), t7, t8, (IntKind.i64.wrap (t9 + 1)), ()) ((out_ ++ [r1]), ())) .d)) .d) (.k out_)
def zgo (zQ : Atom → Bool × ByteArray) (x : ttTannotationformatFactors0) (y : ttTannotationformatFactors1) : Wy ttTannotationformatFactors0 ttTannotationformatFactors1 (List ByteArray) := zei zQ x.2.1 x.2.2.1 x.2.2.2.1 y.1
def znM (zQ : Atom → Bool × ByteArray) (n : Nat) (t7 : List Factor) (t8 : Int) (t9 : Int) (out_ : List ByteArray) : Bool × List ByteArray := zN (zgo zQ) default n ((), t7, t8, t9, ()) (out_, ())
def znc (r : List ByteArray) : LTree ty := .done (.exit 0) [.own 128] [.arr 9 r false]
def znG : LL ty ttTannotationformatFactors0 := za (lOwn 128) (za (lSl 50) (za (lInt .i64) (za (lInt .i64) zT)))
def znI : BL ty ttTannotationformatFactors1 := bArr 9 false (bNil)
def znd (x : ttTannotationformatFactors0) (y : ttTannotationformatFactors1) : Nat := (x.2.1.length + Int.toNat x.2.2.1 + Int.toNat x.2.2.2.1 + y.1.length + 1)
def znP (zQ : Atom → Bool × ByteArray) : Cx ty := mkCx base0 32 [(152, strings_Join_spec), (153, (zjH zQ)), (154, strconv_Itoa_spec)] [] [(3, [(3, .own 9), (7, .keep), (8, .keep), (9, .keep)])] [(3, 1, [(3, .keep)])] [(3, spW znG znI (zgo zQ) default znc znd)] []
theorem zuZ (zQ : Atom → Bool × ByteArray) : zbr (znP zQ) (lp (body Tryz.f110) 0) := zZ (id := 3) (V := znG) (B := znI) (W := zgo zQ) (z := default) (tr := znc) (m := znd)
def zjX (zQ : Atom → Bool × ByteArray) (l : List Factor) : Wy0 (ByteArray) := .bn (znM zQ (l.length + (Int.ofNat l.length).toNat + Int.toNat 0 + 0 + 1) l (Int.ofNat l.length) 0 []) fun r5 => .bn (strings_Join r5 (ByteArray.mk #[(42 : UInt8)])) fun r4 => .k r4
def ze5 (zQ : Atom → Bool × ByteArray) (l : List Factor) : Bool × ByteArray := (zjX zQ l).fin default
theorem ztB (zQ : Atom → Bool × ByteArray) (zzh : Sound Tryz.prog base0 153 (zjH zQ)) : Sound Tryz.prog base0 110 (zfd (ze5 zQ)) :=
 zF (cx' := (znP zQ)) zR zic zL (zG ⟨zq7, zzh, zxK.nodr, trivial⟩) Tryz.call110 Tryz.func110 (c := body Tryz.f110) (by kernel_rfl) (zj (l := [lp (body Tryz.f110) 0]) (by kernel_rfl) ⟨zuZ zQ, trivial⟩) (sg := ⟨[.pure], []⟩) (A := zpr) (res := zof) (W := fun x => zjX zQ x.1) (z := default)
abbrev ttTannotationtext0 := Unit × List Term × Int × Int × Unit
abbrev ttTannotationtext1 := List ByteArray × Unit
def ziO (zI : List Factor → Bool × ByteArray) (t9 : List Term) (t10 : Int) (t11 : Int) (out_ : List ByteArray) : Wy ttTannotationtext0 ttTannotationtext1 (List ByteArray) := .i (decide (t11 < t10)) (.i (decide (0 ≤ t11) && decide (t11 < Int.ofNat t9.length)) (.i (Int.ofNat (t9.getD t11.toNat default).Factors.length == 0) (.bn (zhz (t9.getD t11.toNat default).Coeff 10) fun r0 => .i (decide ((out_.length + [r0].length) * 16 ≤ zP)) (.h ((), t9, t10, (IntKind.i64.wrap (t11 + 1)), ()) ((out_ ++ [r0]), ())) .d) (.i ((t9.getD t11.toNat default).Coeff == 1) (.bn (zI (t9.getD t11.toNat default).Factors) fun r1 => .i (decide ((out_.length + [r1].length) * 16 ≤ zP)) (.h ((), t9, t10, (IntKind.i64.wrap (t11 + 1)), ()) ((out_ ++ [r1]), ())) .d) (.bn (zhz (t9.getD t11.toNat default).Coeff 10) fun r3 => .i (decide (r3.size + (ByteArray.mk #[(42 : UInt8)]).size ≤ 9223372036854775807)) (.bn (zI (t9.getD t11.toNat default).Factors) fun r2 => .i (decide ((r3 ++ ByteArray.mk #[(42 : UInt8)]).size + r2.size ≤ 9223372036854775807)) (.i (decide ((out_.length + [r3 ++ ByteArray.mk #[(42 : UInt8)] ++ r2].length) * 16 ≤ zP)) (.h ((), t9, t10, (IntKind.i64.wrap (t11 + 1)), ()) ((out_ ++ [r3 ++ ByteArray.mk #[(42 : UInt8)] ++ r2]), ())) .d) .d) .d))) .d) (.k out_)
def zlF (zI : List Factor → Bool × ByteArray) (x : ttTannotationtext0) (y : ttTannotationtext1) : Wy ttTannotationtext0 ttTannotationtext1 (List ByteArray) := ziO zI x.2.1 x.2.2.1 x.2.2.2.1 y.1
def zuK (zI : List Factor → Bool × ByteArray) (n : Nat) (t9 : List Term) (t10 : Int) (t11 : Int) (out_ : List ByteArray) : Bool × List ByteArray := zN (zlF zI) default n ((), t9, t10, t11, ()) (out_, ())
def zur (r : List ByteArray) : LTree ty := .done (.exit 0) [.own 200] [.arr 9 r false]
def zvC : LL ty ttTannotationtext0 := za (lOwn 200) (za (lSl 42) (za (lInt .i64) (za (lInt .i64) zT)))
def zvf : BL ty ttTannotationtext1 := bArr 9 false (bNil)
def zt9 (x : ttTannotationtext0) (y : ttTannotationtext1) : Nat := (x.2.1.length + Int.toNat x.2.2.1 + Int.toNat x.2.2.2.1 + y.1.length + 1)
def zuQ (zI : List Factor → Bool × ByteArray) : Cx ty := mkCx base0 50 [(110, (zfd zI)), (151, strconv_FormatInt_spec), (152, strings_Join_spec)] [] [(5, [(3, .own 9), (9, .keep), (10, .keep), (11, .keep)])] [(5, 1, [(3, .keep)])] [(5, spW zvC zvf (zlF zI) default zur zt9)] []
theorem zCy (zI : List Factor → Bool × ByteArray) : zbr (zuQ zI) (lp (body Tryz.f109) 0) := zZ (id := 5) (V := zvC) (B := zvf) (W := zlF zI) (z := default) (tr := zur) (m := zt9)
def zpW (zI : List Factor → Bool × ByteArray) (a : List Term) : Wy0 (ByteArray) := .i (Int.ofNat a.length == 0) (.k (ByteArray.mk #[(48 : UInt8)])) (.bn (zuK zI (a.length + (Int.ofNat a.length).toNat + Int.toNat 0 + 0 + 1) a (Int.ofNat a.length) 0 []) fun r9 => .bn (strings_Join r9 (ByteArray.mk #[(32 : UInt8), (43 : UInt8), (32 : UInt8)])) fun r8 => .k r8)
def zlk (zI : List Factor → Bool × ByteArray) (a : List Term) : Bool × ByteArray := (zpW zI a).fin default
theorem zBc (zI : List Factor → Bool × ByteArray) (zwS : Sound Tryz.prog base0 110 (zfd zI)) : Sound Tryz.prog base0 109 (zli (zlk zI)) :=
 zF (cx' := (zuQ zI)) zR zic zL (zG ⟨zwS, zsb.nodr, zq7, trivial⟩) Tryz.call109 Tryz.func109 (c := body Tryz.f109) (by kernel_rfl) (zj (l := [lp (body Tryz.f109) 0]) (by kernel_rfl) ⟨zCy zI, trivial⟩) (sg := ⟨[.pure], []⟩) (A := zy7) (res := zv4) (W := fun x => zpW zI x.1) (z := default)
def zwx : Nat → (List Term → Bool × ByteArray) × (Atom → Bool × ByteArray) × (List Factor → Bool × ByteArray)
 | 0 => (fun _ => (false, default), fun _ => (false, default), fun _ => (false, default))
 | n + 1 => (zlk ((zwx n).2.2), zhg ((zwx n).1), ze5 ((zwx n).2.1))
def zlg (n : Nat) : List Term → Bool × ByteArray := (zwx n).1
def zjI (n : Nat) : Atom → Bool × ByteArray := (zwx n).2.1
def ze4 (n : Nat) : List Factor → Bool × ByteArray := (zwx n).2.2
theorem zDI (n : Nat) : zlg (n + 1) = zlk (ze4 n) := rfl
theorem zyE (n : Nat) : zjI (n + 1) = zhg (zlg n) := rfl
theorem zvV (n : Nat) : ze4 (n + 1) = ze5 (zjI n) := rfl
theorem zDm : ∀ n, Sound Tryz.prog base0 109 (zli (zlg n)) ∧ Sound Tryz.prog base0 153 (zjH (zjI n)) ∧ Sound Tryz.prog base0 110 (zfd (ze4 n))
 | 0 => ⟨zbB Tryz.call109 (fun _ => rfl), zbB Tryz.call153 (fun _ => rfl), zbB Tryz.call110 (fun _ => rfl)⟩
 | n + 1 => by
  have ih := zDm n
  exact ⟨zBc _ (ih.2.2), zvT _ (ih.1), ztB _ (ih.2.1)⟩
def zBK : List Term → Bool × ByteArray := zlg 1000
def annotation_text_spec : Ab.Spec ty := zli zBK
theorem zCV : Sound Tryz.prog base0 109 annotation_text_spec := (zDm 1000).1
def zmk : List Factor → Bool × ByteArray := ze4 1000
def annotation_formatFactors_spec : Ab.Spec ty := zfd zmk
theorem zuP : Sound Tryz.prog base0 110 annotation_formatFactors_spec := (zDm 1000).2.2
def ziR (x : List Term) (a b lim : Int) : Bool × List Term := zIM zbz x a b lim
def slices_pdqsortCmpFunc_api_Term_spec : Ab.Spec ty := zr (cx := base) (zf (aOwn 42) (zf (zg (vInt .i64)) (zf (zg (vInt .i64)) (zf (zg (vInt .i64)) (zf (zg (vFn 71 vNil)) aNil))))) fun x => ((ziR x.1 x.2.1 x.2.2.1 x.2.2.2.1).1, ⟨[], [some ⟨42, (ziR x.1 x.2.1 x.2.2.1 x.2.2.2.1).2⟩]⟩)
theorem zsE (c : Unit) (x y : Term) (h : (zbz x y).1 = true) : annotation_compareLists_spec ((AV.agg (base.enc 42 x) :: AV.agg (base.enc 42 y) :: (vNil : VL base Unit).enc c).map Arg.pure) = some (true, ⟨[.pure (.lit (.int .i64 (zbz x y).2))], []⟩) := by
 rw [← h]; kernel_rfl
theorem zrG : Sound Tryz.prog base 155 slices_pdqsortCmpFunc_api_Term_spec := by
 letI : DecidableEq (ty 42) := inferInstanceAs (DecidableEq Term)
 exact zNl (T := 42) zB rfl Go.Proofs.Tryz.pdqTerm Tryz.isAgg42 (by unfold szOf; exact Tryz.sizeOf42) Tryz.call155 zjy vNil (fun c => zbz) zsE
open Go.Proofs Go.RowKit
def zbn (x : List Term) : Bool × List Term := zLg zbz x
def zec : Ab.Spec ty := zr (cx := base) (zf (aOwn 42) (zf (zg (vFn 71 vNil)) aNil)) fun x => ((zbn x.1).1, ⟨[], [some ⟨42, (zbn x.1).2⟩]⟩)
set_option maxHeartbeats 1000000 in
theorem znb : Sound Tryz.prog base 111 zec where
 enters := Tryz.call111
 calls := fun avs r hsp w F vs hF ha hsep => by
  unfold zec zr at hsp
  split at hsp
  ·rename_i x hx
   simp only [Option.some.injEq, Prod.mk.injEq] at hsp
   obtain ⟨hpre, rfl⟩ := hsp
   have hk := (zf (aOwn 42) (zf (zg (vFn 71 vNil)) aNil) : AL base _).kind vs avs x hx
   have ha' := (zf (aOwn 42) (zf (zg (vFn 71 vNil)) aNil) : AL base _).ok Tryz.prog zB F w vs avs x hx ha
   rw [hk] at hsep ⊢
   clear hk hx ha
   obtain ⟨l0, c, u0⟩ := x
   obtain ⟨l, rfl⟩ : ∃ l : List Term, l = l0 := ⟨l0, rfl⟩
   obtain ⟨v, vs', rfl, hv, hv'⟩ := ha'.inv
   obtain ⟨fv, vs'', rfl, hfv, h0⟩ := hv'.inv
   obtain rfl := h0.nil_left.1
   have hsl : ∃ p cap, v = .slice p l.length cap := by
    obtain ⟨⟨xs, hown, _⟩, _⟩ := (show zcH base F w v 42 l ∧ ∀ b, zV v = some b → ¬ F b from hv)
    rcases hown.2 with ⟨h1, h2⟩ | ⟨g0, cap, cur, h1, _⟩
    ·exact ⟨none, 0, by rw [h1, show l.length = 0 from h2]⟩
    ·exact ⟨_, cap, h1⟩
   have hok : SortOK (α := Term) zbz l := of_decide_eq_true (p := SortOK (α := Term) zbz l) hpre
   have hlen : l.length < 4611686018427387904 := hok.size
   have hbl : Lib.bitLen l.length < 4611686018427387904 := Nat.lt_of_le_of_lt (Lib.bitLen_le l.length 62 (by omega) (by omega)) (by omega)
   have hpp : (ziR l 0 (l.length : Int) ((Lib.bitLen l.length : Nat) : Int)).1 = true := by
    show (decide (SortOK (α := Term) zbz l) && (decide ((0 : Int) = 0) && (decide ((l.length : Int) = l.length) && (decide ((0 : Int) ≤ ((Lib.bitLen l.length : Nat) : Int)) && decide (((Lib.bitLen l.length : Nat) : Int) < 4611686018427387904))))) = true
    simp only [Bool.and_eq_true, decide_eq_true_eq]
    exact ⟨hok, trivial, trivial, by omega, by omega⟩
   have hp := (zrG).calls [.own 42 l, .pure (.lit (.int .i64 0)), .pure (.lit (.int .i64 (l.length : Int))), .pure (.lit (.int .i64 ((Lib.bitLen l.length : Nat) : Int))), .pure (.fn 71 [])] ⟨[], [some ⟨42, (zbn l).2⟩]⟩
    (by rw [← hpp]; kernel_rfl) w F [v, .int .i64 0, .int .i64 (l.length : Int), .int .i64 ((Lib.bitLen l.length : Nat) : Int), fv] hF (.cons hv (.cons (Rep.lit _) (.cons (Rep.lit _) (.cons (Rep.lit _) (.cons hfv .nil))))) hsep
   replace hp : Calls Tryz.prog 155 #[v, .int .i64 0, .int .i64 (l.length : Int), .int .i64 ((Lib.bitLen l.length : Nat) : Int), fv] w fun e w' => ∃ u, e = .returned u ∧ Post base F w [v] ⟨[], [some ⟨42, (zbn l).2⟩]⟩ u w' := hp
   show Calls Tryz.prog 111 #[v, fv] w fun e w' => ∃ u, e = .returned u ∧ Post base F w [v] ⟨[], [some ⟨42, (zbn l).2⟩]⟩ u w'
   have hb : Calls Tryz.prog 156 #[.int .u64 (l.length : Int)] w fun e w' => e = .returned (.int .i64 ((Lib.bitLen l.length : Nat) : Int)) ∧ w' = w := by
    have h := Any.bits_Len Go.Proofs.Tryz.lays125 (l.length : Int) w (by omega) (by omega)
    rwa [Int.toNat_natCast] at h
   have wr : IntKind.u64.wrap (l.length : Int) = l.length := by simp [IntKind.wrap, IntKind.bits, IntKind.signed]; omega
   generalize (zbn l).2 = res at hp ⊢
   generalize hn : l.length = m at *
   generalize Lib.bitLen m = bl at *
   clear hpp hv hfv hsep hok hpre hF
   obtain ⟨p, cap, rfl⟩ := hsl
   clear hn
   go_enter Tryz.func111, Tryz.ntmps111
   go_wp2_with (first | (go_at_call 156; refine hb.mono ?_; rintro e w' ⟨rfl, rfl⟩) | (go_at_call 155; refine hp.mono ?_; rintro e w' ⟨u, rfl, hpost⟩; obtain rfl := hpost.unit))
   go_end0
   exact ⟨_, rfl, hpost⟩
  ·cases hsp
end Go.Proofs.YtnolcogncjijpaaGreatDoor
namespace Go.Proofs.YtnolcogncjijpaaGreatDoor
open Go Go.Ab
abbrev ttTannotationcollect0 := Unit × Unit × List Term × Int × Int × Unit
abbrev ttTannotationcollect1 := (List (_root_.Go.Value × Int)) × List Term × Unit
def zid (t11 : List Term) (t12 : Int) (t13 : Int) (at_ : List (_root_.Go.Value × Int)) (out_ : List Term) : Wy ttTannotationcollect0 ttTannotationcollect1 (List Term) := .i (decide (t13 < t12)) (.i (decide (0 ≤ t13) && decide (t13 < Int.ofNat t11.length)) (.bn (zmk (t11.getD t13.toNat default).Factors) fun r0 => .i (zNm (Value.string r0) at_) (.i (decide (0 ≤ (zvg (Value.string r0) at_).getD 0) && decide ((zvg (Value.string r0) at_).getD 0 < Int.ofNat out_.length)) (.i (decide (0 ≤ (zvg (Value.string r0) at_).getD 0) && decide ((zvg (Value.string r0) at_).getD 0 < Int.ofNat out_.length)) (.i (decide (Int.toNat ((zvg (Value.string r0) at_).getD 0) < out_.length)) (.h ((), (), t11, t12, (IntKind.i64.wrap (t13 + 1)), ()) (at_, (out_.set (Int.toNat ((zvg (Value.string r0) at_).getD 0)) (TermOf.mk (if 1152921504606846976 < IntKind.i64.wrap ((out_.getD (Int.toNat ((zvg (Value.string r0) at_).getD 0)) default).Coeff + (t11.getD t13.toNat default).Coeff) then 1152921504606846976 else IntKind.i64.wrap ((out_.getD (Int.toNat ((zvg (Value.string r0) at_).getD 0)) default).Coeff + (t11.getD t13.toNat default).Coeff)) (out_.getD (Int.toNat ((zvg (Value.string r0) at_).getD 0)) default).Factors)), ())) .d) .d) .d) (.i (decide ((out_.length + [t11.getD t13.toNat default].length) * 32 ≤ zP)) (.h ((), (), t11, t12, (IntKind.i64.wrap (t13 + 1)), ()) ((zM6 (Value.string r0) (Int.ofNat out_.length) at_), (out_ ++ [t11.getD t13.toNat default]), ())) .d)) .d) (.k out_)
def zkW (x : ttTannotationcollect0) (y : ttTannotationcollect1) : Wy ttTannotationcollect0 ttTannotationcollect1 (List Term) := zid x.2.2.1 x.2.2.2.1 x.2.2.2.2.1 y.1 y.2.1
def zoh (n : Nat) (t11 : List Term) (t12 : Int) (t13 : Int) (at_ : List (_root_.Go.Value × Int)) (out_ : List Term) : Bool × List Term := zN (zkW) default n ((), (), t11, t12, t13, ()) (at_, out_, ())
def ztn (r : List Term) : LTree ty := .done (.exit 0) [.own 208] [.arr 42 r false]
def zuf : LL ty ttTannotationcollect0 := za (lMp 208) (za (lOwn 209) (za (lSl 42) (za (lInt .i64) (za (lInt .i64) zT))))
def zub : BL ty ttTannotationcollect1 := bMp 9 3 false (bArr 42 false (bNil))
def zsQ (x : ttTannotationcollect0) (y : ttTannotationcollect1) : Nat := (x.2.2.1.length + Int.toNat x.2.2.2.1 + Int.toNat x.2.2.2.2.1 + y.1.length + y.2.1.length + 1)
def zug : Cx ty := mkCx base0 52 [(71, annotation_compareLists_spec), (110, annotation_formatFactors_spec), (111, zec)] [(111, [true, false])] [(4, [(3, .keep), (4, .own 42), (11, .keep), (12, .keep), (13, .keep)])] [(4, 1, [(4, .keep)])] [(4, spW zuf zub (zkW) default ztn zsQ)] []
theorem zB9 : zbr zug (lp (body Tryz.f54) 0) := zZ (id := 4) (V := zuf) (B := zub) (W := zkW) (z := default) (tr := ztn) (m := zsQ)
def zpe (terms : List Term) : Wy0 (List Term) := .bn (zoh (terms.length + (Int.ofNat terms.length).toNat + Int.toNat 0 + 0 + 0 + 1) terms (Int.ofNat terms.length) 0 [] []) fun r3 => .bn (zbn r3) fun r2 => .k r2
def zgK (terms : List Term) : Bool × List Term := (zpe terms).fin default
def zs8 (r : List Term) : ARes ty := ⟨[.own 42 r], []⟩
def zuR : AL base0 (List Term × Unit) := zf (zg (vSl 42)) aNil
def zmM : Ab.Spec ty := zr zuR fun x => ((zgK x.1).1, zs8 (zgK x.1).2)
theorem zrf : Sound Tryz.prog base0 54 zmM :=
 zF (cx' := zug) zR zic zL (zG ⟨zjy.nodr, zuP, znb.nodr, trivial⟩) Tryz.call54 Tryz.func54 (c := body Tryz.f54) (by kernel_rfl) (zj (l := [lp (body Tryz.f54) 0]) (by kernel_rfl) ⟨zB9, trivial⟩) (sg := ⟨[.own 42], []⟩) (A := zuR) (res := zs8) (W := fun x => zpe x.1) (z := default)
def zt0 (r : List Term) : ARes ty := ⟨[.own 42 r], []⟩
def zv6 : AL base (List Term × Unit) := zf (zg (vSl 42)) aNil
def zjQ (F : List Term → Bool × List Term) : Ab.Spec ty := zr zv6 fun x => ((F x.1).1, zt0 (F x.1).2)
def zqo (r : Atom) : ARes ty := ⟨[.pure (.agg (base.enc 48 r))], []⟩
def zse : AL base (Atom × Unit) := zf (zg (vAgg 48)) aNil
def zjJ (F : Atom → Bool × Atom) : Ab.Spec ty := zr zse fun x => ((F x.1).1, zqo (F x.1).2)
def zdP : Cx ty := { base with nt := 8 }
def zef (s : List Factor) : Bool × List Factor := (decide (s.length * 128 ≤ zP), s)
def zi5 : Ab.Spec ty := zr (cx := base) (zf (zg (vSl 50)) aNil) fun x => ((zef x.1).1, ⟨[.own 50 (zef x.1).2], []⟩)
theorem zpm : zh3 zdP Tryz.f117 (body Tryz.f117) ⟨[.own 50], []⟩ [.pure (.lit (.slice none 0 0))] = some ⟨[.own 50 []], []⟩ := by kernel_rfl
theorem zoD (p : Addr) (c : Nat) : zh3 zdP Tryz.f117 (body Tryz.f117) ⟨[.own 50], []⟩ [.pure (.lit (.slice (some p) 0 c))] = some ⟨[.own 50 []], []⟩ := by kernel_rfl
theorem zo0 (l : List Factor) : zh3 zdP Tryz.f117 (body Tryz.f117) ⟨[.own 50], []⟩ [.pure (.sl 50 l)] = bif !l.isEmpty then bif decide ((([] : List (ty 50)).length + l.length) * 128 ≤ zP) then some ⟨[.own 50 l], []⟩ else none else none := by kernel_rfl
theorem zoB : Sound Tryz.prog base 117 zi5 :=
 zCh (cx' := zdP) (bytes := 128) zR zB ⟨⟨rfl, rfl, rfl, rfl, rfl, rfl⟩, rfl⟩ (fun g s h => by cases h) Tryz.call117 Tryz.func117 (c := body Tryz.f117) (by kernel_rfl) (zj (l := []) (by kernel_rfl) trivial) zpm zoD zo0 (by kernel_rfl)
abbrev ttTannotationcopied0 := Unit × Unit × Unit × List Term × Int × Int × Int × Int × Unit
abbrev ttTannotationcopied1 := List Term × Term × List Factor × Unit
abbrev ttTannotationcopied2 := List Term × Int × Int × List Term × Term × List Factor
abbrev ttTannotationcopied3 := Unit × List Term × Int × Int × Unit
abbrev ttTannotationcopied4 := List Term × Unit
def zhS (zu : Atom → Bool × Atom) (t8 : List Term) (t9 : Int) (t10 : Int) (t18 : Int) (t19 : Int) (out_ : List Term) (t : Term) (factors : List Factor) : Wy ttTannotationcopied0 ttTannotationcopied1 ttTannotationcopied2 := .i (decide (t19 < t18)) (.i (decide (0 ≤ t19) && decide (t19 < Int.ofNat factors.length)) (.bn (zu (Atom.mk (factors.getD t19.toNat default).Atom.Kind (factors.getD t19.toNat default).Atom.Row (factors.getD t19.toNat default).Atom.Args (factors.getD t19.toNat default).Atom.Func (factors.getD t19.toNat default).Atom.Items (factors.getD t19.toNat default).Atom.Op (factors.getD t19.toNat default).Atom.Bound)) fun r2 => .i (decide (0 ≤ t19) && decide (t19 < Int.ofNat factors.length)) (.i (decide (t19.toNat < factors.length)) (.h ((), (), (), t8, t9, t10, t18, (IntKind.i64.wrap (t19 + 1)), ()) (out_, t, (factors.set t19.toNat (FactorOf.mk (Atom.mk r2.Kind r2.Row r2.Args r2.Func r2.Items r2.Op r2.Bound) (factors.getD t19.toNat default).Exp)), ())) .d) .d) .d) (.k (t8, t9, t10, out_, t, factors))
def zkj (zu : Atom → Bool × Atom) (x : ttTannotationcopied0) (y : ttTannotationcopied1) : Wy ttTannotationcopied0 ttTannotationcopied1 ttTannotationcopied2 := zhS zu x.2.2.2.1 x.2.2.2.2.1 x.2.2.2.2.2.1 x.2.2.2.2.2.2.1 x.2.2.2.2.2.2.2.1 y.1 y.2.1 y.2.2.1
def zsY (zu : Atom → Bool × Atom) (n : Nat) (t8 : List Term) (t9 : Int) (t10 : Int) (t18 : Int) (t19 : Int) (out_ : List Term) (t : Term) (factors : List Factor) : Bool × ttTannotationcopied2 := zN (zkj zu) default n ((), (), (), t8, t9, t10, t18, t19, ()) (out_, t, factors, ())
def zrW (r : ttTannotationcopied2) : LTree ty := .done (.exit 2) [.own 168, .ptr 169 0, .own 170, .sl 42 r.1, .lit (.int .i64 r.2.1), .lit (.int .i64 r.2.2.1)] [.arr 42 r.2.2.2.1 false, .box (base.enc 42 r.2.2.2.2.1) false, .arr 50 r.2.2.2.2.2 false]
def zsU : LL ty ttTannotationcopied0 := za (lOwn 168) (za (zqn 169 0) (za (lOwn 170) (za (lSl 42) (za (lInt .i64) (za (lInt .i64) (za (lInt .i64) (za (lInt .i64) zT)))))))
def zti : BL ty ttTannotationcopied1 := bArr 42 false (bBox (ztu (fun x => (⟨x.1, x.2.1⟩ : Term)) (fun x => (x.Coeff, x.Factors, ())) (fun _ => rfl) (za (lInt .i64) (za (lSl 50) zT))) false (bArr 50 false (bNil)))
def zhT (zu : Atom → Bool × Atom) (t8 : List Term) (t9 : Int) (t10 : Int) (out_ : List Term) : Wy ttTannotationcopied3 ttTannotationcopied4 (List Term) := .i (decide (t10 < t9)) (.i (decide (0 ≤ t10) && decide (t10 < Int.ofNat t8.length)) (.bn (zef (t8.getD t10.toNat default).Factors) fun r5 => .bn (zsY zu (t8.length + t9.toNat + t10.toNat + (Int.ofNat r5.length).toNat + Int.toNat 0 + out_.length + (t8.getD t10.toNat default).Factors.length + r5.length + 1) t8 t9 t10 (Int.ofNat r5.length) 0 out_ (t8.getD t10.toNat default) r5) fun r4 => .i (decide ((r4.2.2.2.1.length + [TermOf.mk r4.2.2.2.2.1.Coeff r4.2.2.2.2.2].length) * 32 ≤ zP)) (.h ((), (r4.1), (r4.2.1), (IntKind.i64.wrap (r4.2.2.1 + 1)), ()) ((r4.2.2.2.1 ++ [TermOf.mk r4.2.2.2.2.1.Coeff r4.2.2.2.2.2]), ())) .d) .d) (.k out_)
def zkk (zu : Atom → Bool × Atom) (x : ttTannotationcopied3) (y : ttTannotationcopied4) : Wy ttTannotationcopied3 ttTannotationcopied4 (List Term) := zhT zu x.2.1 x.2.2.1 x.2.2.2.1 y.1
def zsW (zu : Atom → Bool × Atom) (n : Nat) (t8 : List Term) (t9 : Int) (t10 : Int) (out_ : List Term) : Bool × List Term := zN (zkk zu) default n ((), t8, t9, t10, ()) (out_, ())
def zr1 (r : List Term) : LTree ty := .done (.exit 0) [.own 168] [.arr 42 r false]
def ztg : LL ty ttTannotationcopied3 := za (lOwn 168) (za (lSl 42) (za (lInt .i64) (za (lInt .i64) zT)))
def zsT : BL ty ttTannotationcopied4 := bArr 42 false (bNil)
def zsn (x : ttTannotationcopied0) (y : ttTannotationcopied1) : Nat := (x.2.2.2.1.length + Int.toNat x.2.2.2.2.1 + Int.toNat x.2.2.2.2.2.1 + Int.toNat x.2.2.2.2.2.2.1 + Int.toNat x.2.2.2.2.2.2.2.1 + y.1.length + y.2.1.Factors.length + y.2.2.1.length + 1)
def zsk (x : ttTannotationcopied3) (y : ttTannotationcopied4) : Nat := (x.2.1.length + Int.toNat x.2.2.1 + Int.toNat x.2.2.2.1 + y.1.length + 1)
def znB (zu : Atom → Bool × Atom) : Cx ty := mkCx base 42 [(117, zi5), (118, (zjJ zu))] [] [(3, [(3, .own 42), (8, .keep), (9, .keep), (10, .keep)]), (7, [(3, .keep), (5, .keep), (6, .keep), (8, .keep), (9, .keep), (10, .keep), (18, .keep), (19, .keep)])] [(3, 1, [(3, .keep)]), (7, 3, [(3, .keep), (5, .keep), (6, .keep), (8, .keep), (9, .keep), (10, .keep)])] [(7, spW zsU zti (zkj zu) default zrW zsn), (3, spW ztg zsT (zkk zu) default zr1 zsk)] []
theorem zBf (zu : Atom → Bool × Atom) : zbr (znB zu) (lp (body Tryz.f61) 1) := zZ (id := 7) (V := zsU) (B := zti) (W := zkj zu) (z := default) (tr := zrW) (m := zsn)
theorem zBm (zu : Atom → Bool × Atom) : zbr (znB zu) (lp (body Tryz.f61) 0) := zZ (id := 3) (V := ztg) (B := zsT) (W := zkk zu) (z := default) (tr := zr1) (m := zsk)
def zos (zu : Atom → Bool × Atom) (a : List Term) : Wy0 (List Term) := .bn (zsW zu (a.length + (Int.ofNat a.length).toNat + Int.toNat 0 + 0 + 1) a (Int.ofNat a.length) 0 []) fun r8 => .k r8
def zjR (zu : Atom → Bool × Atom) (a : List Term) : Bool × List Term := (zos zu a).fin default
theorem zzr (zu : Atom → Bool × Atom) (zzk : Sound Tryz.prog base 118 (zjJ zu)) : Sound Tryz.prog base 61 (zjQ (zjR zu)) :=
 zF (cx' := (znB zu)) zR zB zL (zG ⟨zoB, zzk, trivial⟩) Tryz.call61 Tryz.func61 (c := body Tryz.f61) (by kernel_rfl) (zj (l := [lp (body Tryz.f61) 0, lp (body Tryz.f61) 1]) (by kernel_rfl) ⟨zBm zu, zBf zu, trivial⟩) (sg := ⟨[.own 42], []⟩) (A := zv6) (res := zt0) (W := fun x => zos zu x.1) (z := default)
def zcA : Cx ty := { base with nt := 8 }
def zcX (s : List (List Term)) : Bool × List (List Term) := (decide (s.length * 24 ≤ zP), s)
def zgq : Ab.Spec ty := zr (cx := base) (zf (zg (vSl 23)) aNil) fun x => ((zcX x.1).1, ⟨[.own 23 (zcX x.1).2], []⟩)
theorem zmE : zh3 zcA Tryz.f159 (body Tryz.f159) ⟨[.own 23], []⟩ [.pure (.lit (.slice none 0 0))] = some ⟨[.own 23 []], []⟩ := by kernel_rfl
theorem zl3 (p : Addr) (c : Nat) : zh3 zcA Tryz.f159 (body Tryz.f159) ⟨[.own 23], []⟩ [.pure (.lit (.slice (some p) 0 c))] = some ⟨[.own 23 []], []⟩ := by kernel_rfl
theorem zmd (l : List (List Term)) : zh3 zcA Tryz.f159 (body Tryz.f159) ⟨[.own 23], []⟩ [.pure (.sl 23 l)] = bif !l.isEmpty then bif decide ((([] : List (ty 23)).length + l.length) * 24 ≤ zP) then some ⟨[.own 23 l], []⟩ else none else none := by kernel_rfl
theorem zl2 : Sound Tryz.prog base 159 zgq :=
 zCh (cx' := zcA) (bytes := 24) zR zB ⟨⟨rfl, rfl, rfl, rfl, rfl, rfl⟩, rfl⟩ (fun g s h => by cases h) Tryz.call159 Tryz.func159 (c := body Tryz.f159) (by kernel_rfl) (zj (l := []) (by kernel_rfl) trivial) zmE zl3 zmd (by kernel_rfl)
def zc5 : Cx ty := { base with nt := 8 }
def zdG (s : List Weighted) : Bool × List Weighted := (decide (s.length * 56 ≤ zP), s)
def zhY : Ab.Spec ty := zr (cx := base) (zf (zg (vSl 52)) aNil) fun x => ((zdG x.1).1, ⟨[.own 52 (zdG x.1).2], []⟩)
theorem znQ : zh3 zc5 Tryz.f160 (body Tryz.f160) ⟨[.own 52], []⟩ [.pure (.lit (.slice none 0 0))] = some ⟨[.own 52 []], []⟩ := by kernel_rfl
theorem znf (p : Addr) (c : Nat) : zh3 zc5 Tryz.f160 (body Tryz.f160) ⟨[.own 52], []⟩ [.pure (.lit (.slice (some p) 0 c))] = some ⟨[.own 52 []], []⟩ := by kernel_rfl
theorem znv (l : List Weighted) : zh3 zc5 Tryz.f160 (body Tryz.f160) ⟨[.own 52], []⟩ [.pure (.sl 52 l)] = bif !l.isEmpty then bif decide ((([] : List (ty 52)).length + l.length) * 56 ≤ zP) then some ⟨[.own 52 l], []⟩ else none else none := by kernel_rfl
theorem znn : Sound Tryz.prog base 160 zhY :=
 zCh (cx' := zc5) (bytes := 56) zR zB ⟨⟨rfl, rfl, rfl, rfl, rfl, rfl⟩, rfl⟩ (fun g s h => by cases h) Tryz.call160 Tryz.func160 (c := body Tryz.f160) (by kernel_rfl) (zj (l := []) (by kernel_rfl) trivial) znQ znf znv (by kernel_rfl)
abbrev ttTannotationcopiedAtom0 := Unit × Unit × Int × Int × Unit
abbrev ttTannotationcopiedAtom1 := (Int × Int × Int × Unit × Int × List Weighted × Int × Int × Int × ByteArray × Unit) × (Int × Int × Int × Unit × Int × Unit × Int × Int × Int × ByteArray × Unit) × List (List Term) × Unit
abbrev ttTannotationcopiedAtom2 := Int × Int × Int × Int × List Weighted × Int × Int × Int × ByteArray × Int × Int × Int × Int × Int × Int × Int × ByteArray × List (List Term)
abbrev ttTannotationcopiedAtom3 := (Int × Int × Int × Unit × Int × Unit × Int × Int × Int × ByteArray × Unit) × (Int × Int × Int × Unit × Int × Unit × Int × Int × Int × ByteArray × Unit) × List (List Term) × List Weighted × Unit
abbrev ttTannotationcopiedAtom4 := Int × Int × Int × Int × Int × Int × Int × ByteArray × Int × Int × Int × Int × Int × Int × Int × ByteArray × List (List Term) × List Weighted
def ze6 (zH : List Term → Bool × List Term) (t11 : Int) (t12 : Int) (x_0 : Int) (x_1 : Int) (x_2 : Int) (x_3 : Int) (x_4 : List Weighted) (x_5 : Int) (x_6 : Int) (x_7 : Int) (x_8 : ByteArray) (t2_0 : Int) (t2_1 : Int) (t2_2 : Int) (t2_3 : Int) (t2_4 : Int) (t2_5 : Int) (t2_6 : Int) (t2_7 : ByteArray) (b2 : List (List Term)) : Wy ttTannotationcopiedAtom0 ttTannotationcopiedAtom1 ttTannotationcopiedAtom2 := .i (decide (t12 < t11)) (.i (decide (0 ≤ t12) && decide (t12 < Int.ofNat b2.length)) (.bn (zH (b2.getD t12.toNat default)) fun r0 => .i (decide (0 ≤ t12) && decide (t12 < Int.ofNat b2.length)) (.i (decide (t12.toNat < b2.length)) (.h ((), (), t11, (IntKind.i64.wrap (t12 + 1)), ()) ((x_0, x_1, x_2, (), x_3, x_4, x_5, x_6, x_7, x_8, ()), (t2_0, t2_1, t2_2, (), t2_3, (), t2_4, t2_5, t2_6, t2_7, ()), (b2.set t12.toNat r0), ())) .d) .d) .d) (.k (x_0, x_1, x_2, x_3, x_4, x_5, x_6, x_7, x_8, t2_0, t2_1, t2_2, t2_3, t2_4, t2_5, t2_6, t2_7, b2))
def zh7 (zH : List Term → Bool × List Term) (x : ttTannotationcopiedAtom0) (y : ttTannotationcopiedAtom1) : Wy ttTannotationcopiedAtom0 ttTannotationcopiedAtom1 ttTannotationcopiedAtom2 := ze6 zH x.2.2.1 x.2.2.2.1 y.1.1 y.1.2.1 y.1.2.2.1 y.1.2.2.2.2.1 y.1.2.2.2.2.2.1 y.1.2.2.2.2.2.2.1 y.1.2.2.2.2.2.2.2.1 y.1.2.2.2.2.2.2.2.2.1 y.1.2.2.2.2.2.2.2.2.2.1 y.2.1.1 y.2.1.2.1 y.2.1.2.2.1 y.2.1.2.2.2.2.1 y.2.1.2.2.2.2.2.2.1 y.2.1.2.2.2.2.2.2.2.1 y.2.1.2.2.2.2.2.2.2.2.1 y.2.1.2.2.2.2.2.2.2.2.2.1 y.2.2.1
def zpp (zH : List Term → Bool × List Term) (n : Nat) (t11 : Int) (t12 : Int) (x_0 : Int) (x_1 : Int) (x_2 : Int) (x_3 : Int) (x_4 : List Weighted) (x_5 : Int) (x_6 : Int) (x_7 : Int) (x_8 : ByteArray) (t2_0 : Int) (t2_1 : Int) (t2_2 : Int) (t2_3 : Int) (t2_4 : Int) (t2_5 : Int) (t2_6 : Int) (t2_7 : ByteArray) (b2 : List (List Term)) : Bool × ttTannotationcopiedAtom2 := zN (zh7 zH) default n ((), (), t11, t12, ()) ((x_0, x_1, x_2, (), x_3, x_4, x_5, x_6, x_7, x_8, ()), (t2_0, t2_1, t2_2, (), t2_3, (), t2_4, t2_5, t2_6, t2_7, ()), b2, ())
def zoV (r : ttTannotationcopiedAtom2) : LTree ty := .done (.exit 0) [.ptr 200 0, .ptr 201 0] [.box ([.lit (.int .i64 r.1), .lit (.int .i64 r.2.1), .lit (.int .i64 r.2.2.1), .own 202, .lit (.int .i64 r.2.2.2.1), .sl 52 r.2.2.2.2.1, .lit (.int .i64 r.2.2.2.2.2.1), .lit (.int .i64 r.2.2.2.2.2.2.1), .lit (.int .i64 r.2.2.2.2.2.2.2.1), .lit (.string r.2.2.2.2.2.2.2.2.1)]) false, .box ([.lit (.int .i64 r.2.2.2.2.2.2.2.2.2.1), .lit (.int .i64 r.2.2.2.2.2.2.2.2.2.2.1), .lit (.int .i64 r.2.2.2.2.2.2.2.2.2.2.2.1), .lit (.slice none 0 0), .lit (.int .i64 r.2.2.2.2.2.2.2.2.2.2.2.2.1), .lit (.slice none 0 0), .lit (.int .i64 r.2.2.2.2.2.2.2.2.2.2.2.2.2.1), .lit (.int .i64 r.2.2.2.2.2.2.2.2.2.2.2.2.2.2.1), .lit (.int .i64 r.2.2.2.2.2.2.2.2.2.2.2.2.2.2.2.1), .lit (.string r.2.2.2.2.2.2.2.2.2.2.2.2.2.2.2.2.1)]) false, .arr 23 r.2.2.2.2.2.2.2.2.2.2.2.2.2.2.2.2.2 false]
def zpJ : LL ty ttTannotationcopiedAtom0 := za (zqn 200 0) (za (zqn 201 0) (za (lInt .i64) (za (lInt .i64) zT)))
def zpK : BL ty ttTannotationcopiedAtom1 := bBox (za (lInt .i64) (za (lInt .i64) (za (lInt .i64) (za (lOwn 202) (za (lInt .i64) (za (lSl 52) (za (lInt .i64) (za (lInt .i64) (za (lInt .i64) (za lStr zT)))))))))) false (bBox (za (lInt .i64) (za (lInt .i64) (za (lInt .i64) (za lNil (za (lInt .i64) (za lNil (za (lInt .i64) (za (lInt .i64) (za (lInt .i64) (za lStr zT)))))))))) false (bArr 23 false (bNil)))
def ze2 (zH : List Term → Bool × List Term) (t32 : Int) (t33 : Int) (x_0 : Int) (x_1 : Int) (x_2 : Int) (x_3 : Int) (x_4 : Int) (x_5 : Int) (x_6 : Int) (x_7 : ByteArray) (t2_0 : Int) (t2_1 : Int) (t2_2 : Int) (t2_3 : Int) (t2_4 : Int) (t2_5 : Int) (t2_6 : Int) (t2_7 : ByteArray) (b2 : List (List Term)) (b3 : List Weighted) : Wy ttTannotationcopiedAtom0 ttTannotationcopiedAtom3 ttTannotationcopiedAtom4 := .i (decide (t33 < t32)) (.i (decide (0 ≤ t33) && decide (t33 < Int.ofNat b3.length)) (.bn (zH (b3.getD t33.toNat default).Ann) fun r2 => .i (decide (0 ≤ t33) && decide (t33 < Int.ofNat b3.length)) (.i (decide (t33.toNat < b3.length)) (.h ((), (), t32, (IntKind.i64.wrap (t33 + 1)), ()) ((x_0, x_1, x_2, (), x_3, (), x_4, x_5, x_6, x_7, ()), (t2_0, t2_1, t2_2, (), t2_3, (), t2_4, t2_5, t2_6, t2_7, ()), b2, (b3.set t33.toNat (WeightedOf.mk (b3.getD t33.toNat default).Value r2)), ())) .d) .d) .d) (.k (x_0, x_1, x_2, x_3, x_4, x_5, x_6, x_7, t2_0, t2_1, t2_2, t2_3, t2_4, t2_5, t2_6, t2_7, b2, b3))
def zh8 (zH : List Term → Bool × List Term) (x : ttTannotationcopiedAtom0) (y : ttTannotationcopiedAtom3) : Wy ttTannotationcopiedAtom0 ttTannotationcopiedAtom3 ttTannotationcopiedAtom4 := ze2 zH x.2.2.1 x.2.2.2.1 y.1.1 y.1.2.1 y.1.2.2.1 y.1.2.2.2.2.1 y.1.2.2.2.2.2.2.1 y.1.2.2.2.2.2.2.2.1 y.1.2.2.2.2.2.2.2.2.1 y.1.2.2.2.2.2.2.2.2.2.1 y.2.1.1 y.2.1.2.1 y.2.1.2.2.1 y.2.1.2.2.2.2.1 y.2.1.2.2.2.2.2.2.1 y.2.1.2.2.2.2.2.2.2.1 y.2.1.2.2.2.2.2.2.2.2.1 y.2.1.2.2.2.2.2.2.2.2.2.1 y.2.2.1 y.2.2.2.1
def zpl (zH : List Term → Bool × List Term) (n : Nat) (t32 : Int) (t33 : Int) (x_0 : Int) (x_1 : Int) (x_2 : Int) (x_3 : Int) (x_4 : Int) (x_5 : Int) (x_6 : Int) (x_7 : ByteArray) (t2_0 : Int) (t2_1 : Int) (t2_2 : Int) (t2_3 : Int) (t2_4 : Int) (t2_5 : Int) (t2_6 : Int) (t2_7 : ByteArray) (b2 : List (List Term)) (b3 : List Weighted) : Bool × ttTannotationcopiedAtom4 := zN (zh8 zH) default n ((), (), t32, t33, ()) ((x_0, x_1, x_2, (), x_3, (), x_4, x_5, x_6, x_7, ()), (t2_0, t2_1, t2_2, (), t2_3, (), t2_4, t2_5, t2_6, t2_7, ()), b2, b3, ())
def zoU (r : ttTannotationcopiedAtom4) : LTree ty := .done (.exit 2) [.ptr 200 0, .ptr 201 0] [.box ([.lit (.int .i64 r.1), .lit (.int .i64 r.2.1), .lit (.int .i64 r.2.2.1), .own 202, .lit (.int .i64 r.2.2.2.1), .own 203, .lit (.int .i64 r.2.2.2.2.1), .lit (.int .i64 r.2.2.2.2.2.1), .lit (.int .i64 r.2.2.2.2.2.2.1), .lit (.string r.2.2.2.2.2.2.2.1)]) false, .box ([.lit (.int .i64 r.2.2.2.2.2.2.2.2.1), .lit (.int .i64 r.2.2.2.2.2.2.2.2.2.1), .lit (.int .i64 r.2.2.2.2.2.2.2.2.2.2.1), .lit (.slice none 0 0), .lit (.int .i64 r.2.2.2.2.2.2.2.2.2.2.2.1), .lit (.slice none 0 0), .lit (.int .i64 r.2.2.2.2.2.2.2.2.2.2.2.2.1), .lit (.int .i64 r.2.2.2.2.2.2.2.2.2.2.2.2.2.1), .lit (.int .i64 r.2.2.2.2.2.2.2.2.2.2.2.2.2.2.1), .lit (.string r.2.2.2.2.2.2.2.2.2.2.2.2.2.2.2.1)]) false, .arr 23 r.2.2.2.2.2.2.2.2.2.2.2.2.2.2.2.2.1 false, .arr 52 r.2.2.2.2.2.2.2.2.2.2.2.2.2.2.2.2.2 false]
def zpC : LL ty ttTannotationcopiedAtom0 := za (zqn 200 0) (za (zqn 201 0) (za (lInt .i64) (za (lInt .i64) zT)))
def zpD : BL ty ttTannotationcopiedAtom3 := bBox (za (lInt .i64) (za (lInt .i64) (za (lInt .i64) (za (lOwn 202) (za (lInt .i64) (za (lOwn 203) (za (lInt .i64) (za (lInt .i64) (za (lInt .i64) (za lStr zT)))))))))) false (bBox (za (lInt .i64) (za (lInt .i64) (za (lInt .i64) (za lNil (za (lInt .i64) (za lNil (za (lInt .i64) (za (lInt .i64) (za (lInt .i64) (za lStr zT)))))))))) false (bArr 23 false (bArr 52 false (bNil))))
def zoF (x : ttTannotationcopiedAtom0) (y : ttTannotationcopiedAtom1) : Nat := (Int.toNat x.2.2.1 + Int.toNat x.2.2.2.1 + Int.toNat y.1.1 + Int.toNat y.1.2.1 + Int.toNat y.1.2.2.1 + Int.toNat y.1.2.2.2.2.1 + y.1.2.2.2.2.2.1.length + Int.toNat y.1.2.2.2.2.2.2.1 + Int.toNat y.1.2.2.2.2.2.2.2.1 + Int.toNat y.1.2.2.2.2.2.2.2.2.1 + y.1.2.2.2.2.2.2.2.2.2.1.size + Int.toNat y.2.1.1 + Int.toNat y.2.1.2.1 + Int.toNat y.2.1.2.2.1 + Int.toNat y.2.1.2.2.2.2.1 + Int.toNat y.2.1.2.2.2.2.2.2.1 + Int.toNat y.2.1.2.2.2.2.2.2.2.1 + Int.toNat y.2.1.2.2.2.2.2.2.2.2.1 + y.2.1.2.2.2.2.2.2.2.2.2.1.size + y.2.2.1.length + 1)
def zoO (x : ttTannotationcopiedAtom0) (y : ttTannotationcopiedAtom3) : Nat := (Int.toNat x.2.2.1 + Int.toNat x.2.2.2.1 + Int.toNat y.1.1 + Int.toNat y.1.2.1 + Int.toNat y.1.2.2.1 + Int.toNat y.1.2.2.2.2.1 + Int.toNat y.1.2.2.2.2.2.2.1 + Int.toNat y.1.2.2.2.2.2.2.2.1 + Int.toNat y.1.2.2.2.2.2.2.2.2.1 + y.1.2.2.2.2.2.2.2.2.2.1.size + Int.toNat y.2.1.1 + Int.toNat y.2.1.2.1 + Int.toNat y.2.1.2.2.1 + Int.toNat y.2.1.2.2.2.2.1 + Int.toNat y.2.1.2.2.2.2.2.2.1 + Int.toNat y.2.1.2.2.2.2.2.2.2.1 + Int.toNat y.2.1.2.2.2.2.2.2.2.2.1 + y.2.1.2.2.2.2.2.2.2.2.2.1.size + y.2.2.1.length + y.2.2.2.1.length + 1)
def zk9 (zH : List Term → Bool × List Term) : Cx ty := mkCx base 50 [(61, (zjQ zH)), (159, zgq), (160, zhY)] [] [(3, [(1, .keep), (2, .keep), (11, .keep), (12, .keep)]), (9, [(1, .keep), (2, .keep), (32, .keep), (33, .keep)])] [(3, 1, [(1, .keep), (2, .keep)]), (9, 3, [(1, .keep), (2, .keep)])] [(3, spW zpJ zpK (zh7 zH) default zoV zoF), (9, spW zpC zpD (zh8 zH) default zoU zoO)] []
theorem zxC (zH : List Term → Bool × List Term) : zbr (zk9 zH) (lp (body Tryz.f118) 0) := zZ (id := 3) (V := zpJ) (B := zpK) (W := zh7 zH) (z := default) (tr := zoV) (m := zoF)
theorem zx3 (zH : List Term → Bool × List Term) : zbr (zk9 zH) (lp (body Tryz.f118) 1) := zZ (id := 9) (V := zpC) (B := zpD) (W := zh8 zH) (z := default) (tr := zoU) (m := zoO)
def zlz (zH : List Term → Bool × List Term) (x_ : Atom) : Wy0 (Atom) := .bn (zcX x_.Args) fun r7 => .bn (zpp zH ((Int.ofNat r7.length).toNat + Int.toNat 0 + x_.Kind.toNat + x_.Row.Table.toNat + x_.Row.Seq.toNat + x_.Func.toNat + x_.Items.length + x_.Op.toNat + x_.Bound.Kind.toNat + x_.Bound.Int.toNat + x_.Bound.Text.size + Int.toNat 0 + Int.toNat 0 + Int.toNat 0 + Int.toNat 0 + Int.toNat 0 + Int.toNat 0 + Int.toNat 0 + (ByteArray.mk #[]).size + r7.length + 1) (Int.ofNat r7.length) 0 x_.Kind x_.Row.Table x_.Row.Seq x_.Func x_.Items x_.Op x_.Bound.Kind x_.Bound.Int x_.Bound.Text 0 0 0 0 0 0 0 (ByteArray.mk #[]) r7) fun r6 => .bn (zdG r6.2.2.2.2.1) fun r5 => .bn (zpl zH ((Int.ofNat r5.length).toNat + Int.toNat 0 + r6.1.toNat + r6.2.1.toNat + r6.2.2.1.toNat + r6.2.2.2.1.toNat + r6.2.2.2.2.2.1.toNat + r6.2.2.2.2.2.2.1.toNat + r6.2.2.2.2.2.2.2.1.toNat + r6.2.2.2.2.2.2.2.2.1.size + r6.2.2.2.2.2.2.2.2.2.1.toNat + r6.2.2.2.2.2.2.2.2.2.2.1.toNat + r6.2.2.2.2.2.2.2.2.2.2.2.1.toNat + r6.2.2.2.2.2.2.2.2.2.2.2.2.1.toNat + r6.2.2.2.2.2.2.2.2.2.2.2.2.2.1.toNat + r6.2.2.2.2.2.2.2.2.2.2.2.2.2.2.1.toNat + r6.2.2.2.2.2.2.2.2.2.2.2.2.2.2.2.1.toNat + r6.2.2.2.2.2.2.2.2.2.2.2.2.2.2.2.2.1.size + r6.2.2.2.2.2.2.2.2.2.2.2.2.2.2.2.2.2.length + r5.length + 1) (Int.ofNat r5.length) 0 r6.1 r6.2.1 r6.2.2.1 r6.2.2.2.1 r6.2.2.2.2.2.1 r6.2.2.2.2.2.2.1 r6.2.2.2.2.2.2.2.1 r6.2.2.2.2.2.2.2.2.1 r6.2.2.2.2.2.2.2.2.2.1 r6.2.2.2.2.2.2.2.2.2.2.1 r6.2.2.2.2.2.2.2.2.2.2.2.1 r6.2.2.2.2.2.2.2.2.2.2.2.2.1 r6.2.2.2.2.2.2.2.2.2.2.2.2.2.1 r6.2.2.2.2.2.2.2.2.2.2.2.2.2.2.1 r6.2.2.2.2.2.2.2.2.2.2.2.2.2.2.2.1 r6.2.2.2.2.2.2.2.2.2.2.2.2.2.2.2.2.1 r6.2.2.2.2.2.2.2.2.2.2.2.2.2.2.2.2.2 r5) fun r4 => .k (⟨r4.1, (⟨r4.2.1, r4.2.2.1⟩ : RowID), r4.2.2.2.2.2.2.2.2.2.2.2.2.2.2.2.2.1, r4.2.2.2.1, r4.2.2.2.2.2.2.2.2.2.2.2.2.2.2.2.2.2, r4.2.2.2.2.1, (⟨r4.2.2.2.2.2.1, r4.2.2.2.2.2.2.1, r4.2.2.2.2.2.2.2.1⟩ : Value)⟩ : Atom)
def zhe (zH : List Term → Bool × List Term) (x_ : Atom) : Bool × Atom := (zlz zH x_).fin default
theorem zvW (zH : List Term → Bool × List Term) (zCz : Sound Tryz.prog base 61 (zjQ zH)) : Sound Tryz.prog base 118 (zjJ (zhe zH)) :=
 zF (cx' := (zk9 zH)) zR zB zL (zG ⟨zCz, zl2, znn, trivial⟩) Tryz.call118 Tryz.func118 (c := body Tryz.f118) (by kernel_rfl) (zj (l := [lp (body Tryz.f118) 0, lp (body Tryz.f118) 1]) (by kernel_rfl) ⟨zxC zH, zx3 zH, trivial⟩) (sg := ⟨[.pure], []⟩) (A := zse) (res := zqo) (W := fun x => zlz zH x.1) (z := default)
def zzt : Nat → (List Term → Bool × List Term) × (Atom → Bool × Atom)
 | 0 => (fun _ => (false, default), fun _ => (false, default))
 | n + 1 => (zjR ((zzt n).2), zhe ((zzt n).1))
def zjU (n : Nat) : List Term → Bool × List Term := (zzt n).1
def zjE (n : Nat) : Atom → Bool × Atom := (zzt n).2
theorem zCd (n : Nat) : zjU (n + 1) = zjR (zjE n) := rfl
theorem zyx (n : Nat) : zjE (n + 1) = zhe (zjU n) := rfl
theorem zFj : ∀ n, Sound Tryz.prog base 61 (zjQ (zjU n)) ∧ Sound Tryz.prog base 118 (zjJ (zjE n))
 | 0 => ⟨zbB Tryz.call61 (fun _ => rfl), zbB Tryz.call118 (fun _ => rfl)⟩
 | n + 1 => by
  have ih := zFj n
  exact ⟨zzr _ (ih.2), zvW _ (ih.1)⟩
def zfq : List Term → Bool × List Term := zjU 1000
def annotation_copied_spec : Ab.Spec ty := zjQ zfq
theorem zhl : Sound Tryz.prog base 61 annotation_copied_spec := (zFj 1000).1
def zCB : Cx ty := mkCx base 9 [(61, annotation_copied_spec), (70, zns)] [] [] [] [] []
def zo3 (a : List Term) : Wy0 (List Term × Int) := .bn (zjk a) fun r1 => .i (!r1) (.k ([], 6)) (.bn (zfq a) fun r0 => .k (r0, 0))
def zdy (a : List Term) : Bool × (List Term × Int) := (zo3 a).fin default
def zta (r : List Term × Int) : ARes ty := ⟨[.own 42 r.1, .pure (.lit (.int .i64 r.2))], []⟩
def zvN : AL base (List Term × Unit) := zf (zg (vSl 42)) aNil
def zd1 : Ab.Spec ty := zr zvN fun x => ((zdy x.1).1, zta (zdy x.1).2)
theorem zep : Sound Tryz.prog base 53 zd1 :=
 zF (cx' := zCB) zR zB zL (zG ⟨zhl, zr3, trivial⟩) Tryz.call53 Tryz.func53 (c := body Tryz.f53) (by kernel_rfl) (zj (l := []) (by kernel_rfl) trivial) (sg := ⟨[.own 42, .pure], []⟩) (A := zvN) (res := zta) (W := fun x => zo3 x.1) (z := default)
def zp1 : Cx ty := mkCx base 27 [] [] [] [] [] []
def zf0 (n_ : Int) : Wy0 (List Term) := .i (decide (n_ < 0)) .d (.i (decide (IntKind.i64.wrap (n_ - IntKind.i64.wrap (0 - 0)) > 0)) (.i (decide (0 < IntKind.i64.wrap (n_ - IntKind.i64.wrap (0 - 0))) && (decide (IntKind.i64.wrap (n_ - IntKind.i64.wrap (0 - 0)) * Int.ofNat 32 ≤ Int.ofNat zP) && (decide (IntKind.i64.wrap (n_ - IntKind.i64.wrap (0 - 0)) ≤ Int.ofNat zP) && !Nat.beq 2 0))) (.k (List.take (Int.toNat 0 - Int.toNat 0) (List.replicate (IntKind.i64.wrap (n_ - IntKind.i64.wrap (0 - 0))).toNat (TermOf.mk 0 [])))) .d) (.k []))
def zc7 (n_ : Int) : Bool × List Term := (zf0 n_).fin default
def zjo (r : List Term) : ARes ty := ⟨[.own 42 r], []⟩
def zj8 : AL base (Unit × Int × Unit) := zf (zg zPJ) (zf (zg (vInt .i64)) aNil)
def ziL : Ab.Spec ty := zr zj8 fun x => ((zc7 x.2.1).1, zjo (zc7 x.2.1).2)
theorem zoA : Sound Tryz.prog base 112 ziL :=
 zF (cx' := zp1) zR zB zL (zG trivial) Tryz.call112 Tryz.func112 (c := body Tryz.f112) (by kernel_rfl) (zj (l := []) (by kernel_rfl) trivial) (sg := ⟨[.own 42], []⟩) (A := zj8) (res := zjo) (W := fun x => zf0 x.2.1) (z := default)
abbrev ttTslicesConcatapiAnnotationapiTerm0 := List (List Term) × Int × List (List Term) × Int × Int × Unit
abbrev ttTslicesConcatapiAnnotationapiTerm1 := List (List Term) × Int
abbrev ttTslicesConcatapiAnnotationapiTerm2 := Unit × List (List Term) × Int × Int × Unit
abbrev ttTslicesConcatapiAnnotationapiTerm3 := List Term × Unit
def zcp (slices : List (List Term)) (size : Int) (t9 : List (List Term)) (t10 : Int) (t11 : Int) : Wy ttTslicesConcatapiAnnotationapiTerm0 (Unit) ttTslicesConcatapiAnnotationapiTerm1 := .i (decide (t11 < t10)) (.i (decide (0 ≤ t11) && decide (t11 < Int.ofNat t9.length)) (.i (decide (IntKind.i64.wrap (size + Int.ofNat (List.length (t9.getD t11.toNat default))) < 0)) .d (.h (slices, (IntKind.i64.wrap (size + Int.ofNat (List.length (t9.getD t11.toNat default)))), t9, t10, (IntKind.i64.wrap (t11 + 1)), ()) ())) .d) (.k (slices, size))
def zdu (x : ttTslicesConcatapiAnnotationapiTerm0) (y : Unit) : Wy ttTslicesConcatapiAnnotationapiTerm0 (Unit) ttTslicesConcatapiAnnotationapiTerm1 := zcp x.1 x.2.1 x.2.2.1 x.2.2.2.1 x.2.2.2.2.1
def ziV (n : Nat) (slices : List (List Term)) (size : Int) (t9 : List (List Term)) (t10 : Int) (t11 : Int) : Bool × ttTslicesConcatapiAnnotationapiTerm1 := zN (zdu) default n (slices, size, t9, t10, t11, ()) ()
def ziC (r : ttTslicesConcatapiAnnotationapiTerm1) : LTree ty := .done (.exit 0) [.sl 23 r.1, .lit (.int .i64 r.2)] []
def zi7 : LL ty ttTslicesConcatapiAnnotationapiTerm0 := za (lSl 23) (za (lInt .i64) (za (lSl 23) (za (lInt .i64) (za (lInt .i64) zT))))
def zje : BL ty (Unit) := bNil
def zcl (t25 : List (List Term)) (t26 : Int) (t27 : Int) (newslice : List Term) : Wy ttTslicesConcatapiAnnotationapiTerm2 ttTslicesConcatapiAnnotationapiTerm3 (List Term) := .i (decide (t27 < t26)) (.i (decide (0 ≤ t27) && decide (t27 < Int.ofNat t25.length)) (.i (decide ((newslice.length + List.length (t25.getD t27.toNat default)) * 32 ≤ zP)) (.h ((), t25, t26, (IntKind.i64.wrap (t27 + 1)), ()) ((newslice ++ t25.getD t27.toNat default), ())) .d) .d) (.k newslice)
def zdj (x : ttTslicesConcatapiAnnotationapiTerm2) (y : ttTslicesConcatapiAnnotationapiTerm3) : Wy ttTslicesConcatapiAnnotationapiTerm2 ttTslicesConcatapiAnnotationapiTerm3 (List Term) := zcl x.2.1 x.2.2.1 x.2.2.2.1 y.1
def ziG (n : Nat) (t25 : List (List Term)) (t26 : Int) (t27 : Int) (newslice : List Term) : Bool × List Term := zN (zdj) default n ((), t25, t26, t27, ()) (newslice, ())
def zig (r : List Term) : LTree ty := .done (.exit 2) [.own 144] [.arr 42 r false]
def ziA : LL ty ttTslicesConcatapiAnnotationapiTerm2 := za (lOwn 144) (za (lSl 23) (za (lInt .i64) (za (lInt .i64) zT)))
def ziB : BL ty ttTslicesConcatapiAnnotationapiTerm3 := bArr 42 false (bNil)
def ziE (x : ttTslicesConcatapiAnnotationapiTerm0) (y : Unit) : Nat := (x.1.length + Int.toNat x.2.1 + x.2.2.1.length + Int.toNat x.2.2.2.1 + Int.toNat x.2.2.2.2.1 + 1)
def zij (x : ttTslicesConcatapiAnnotationapiTerm2) (y : ttTslicesConcatapiAnnotationapiTerm3) : Nat := (x.2.1.length + Int.toNat x.2.2.1 + Int.toNat x.2.2.2.1 + y.1.length + 1)
def zeV : Cx ty := mkCx base 36 [(112, ziL)] [] [(3, [(0, .keep), (3, .keep), (9, .keep), (10, .keep), (11, .keep)]), (11, [(6, .keep), (25, .keep), (26, .keep), (27, .keep)])] [(3, 1, [(0, .keep), (3, .keep)]), (11, 3, [(6, .keep)])] [(3, spW zi7 zje (zdu) default ziC ziE), (11, spW ziA ziB (zdj) default zig zij)] [112]
theorem zoC : zbr zeV (lp (body Tryz.f55) 0) := zZ (id := 3) (V := zi7) (B := zje) (W := zdu) (z := default) (tr := ziC) (m := ziE)
theorem zn7 : zbr zeV (lp (body Tryz.f55) 1) := zZ (id := 11) (V := ziA) (B := ziB) (W := zdj) (z := default) (tr := zig) (m := zij)
def zfa (slices : List (List Term)) : Wy0 (List Term) := .bn (ziV (slices.length + Int.toNat 0 + slices.length + (Int.ofNat slices.length).toNat + Int.toNat 0 + 1) slices 0 slices (Int.ofNat slices.length) 0) fun r2 => .bn (zc7 r2.2) fun r1 => .bn (ziG (r2.1.length + (Int.ofNat r2.1.length).toNat + Int.toNat 0 + r1.length + 1) r2.1 (Int.ofNat r2.1.length) 0 r1) fun r0 => .k r0
def zcN (slices : List (List Term)) : Bool × List Term := (zfa slices).fin default
def ziF (r : List Term) : ARes ty := ⟨[.own 42 r], []⟩
def zjs : AL base (List (List Term) × Unit) := zf (zg (vSl 23)) aNil
def zii : Ab.Spec ty := zr zjs fun x => ((zcN x.1).1, ziF (zcN x.1).2)
theorem znR : Sound Tryz.prog base 55 zii :=
 zF (cx' := zeV) zR zB zL (zG ⟨zoA, trivial⟩) Tryz.call55 Tryz.func55 (c := body Tryz.f55) (by kernel_rfl) (zj (l := [lp (body Tryz.f55) 0, lp (body Tryz.f55) 1]) (by kernel_rfl) ⟨zoC, zn7, trivial⟩) (sg := ⟨[.own 42], []⟩) (A := zjs) (res := ziF) (W := fun x => zfa x.1) (z := default)
def zGh : Cx ty := mkCx base0 22 [(31, annotation_Valid_spec), (53, zd1), (54, zmM), (55, zii)] [] [] [] [] []
def ztG (a : List Term) (b : List Term) : Wy0 (List Term × Int) := .bn (zbE a) fun r4 => .i (!r4) (.k ([], 1)) (.bn (zbE b) fun r3 => .i (!r3) (.k ([], 1)) (.bn (zcN [a, b]) fun r2 => .bn (zgK r2) fun r1 => .bn (zdy r1) fun r0 => .k (r0.1, r0.2)))
def zd5 (a : List Term) (b : List Term) : Bool × (List Term × Int) := (ztG a b).fin default
def zxt (r : List Term × Int) : ARes ty := ⟨[.own 42 r.1, .pure (.lit (.int .i64 r.2))], []⟩
def zzN : AL base0 (List Term × List Term × Unit) := zf (zg (vSl 42)) (zf (zg (vSl 42)) aNil)
def zmA : Ab.Spec ty := zr zzN fun x => ((zd5 x.1 x.2.1).1, zxt (zd5 x.1 x.2.1).2)
theorem zpj : Sound Tryz.prog base0 13 zmA :=
 zF (cx' := zGh) zR zic zL (zG ⟨zcm.nodr, zep.nodr, zrf, znR.nodr, trivial⟩) Tryz.call13 Tryz.func13 (c := body Tryz.f13) (by kernel_rfl) (zj (l := []) (by kernel_rfl) trivial) (sg := ⟨[.own 42, .pure], []⟩) (A := zzN) (res := zxt) (W := fun x => ztG x.1 x.2.1) (z := default)
def zqA : Cx ty := mkCx base 27 [] [] [] [] [] []
def zgE (n_ : Int) : Wy0 (List Factor) := .i (decide (n_ < 0)) .d (.i (decide (IntKind.i64.wrap (n_ - IntKind.i64.wrap (0 - 0)) > 0)) (.i (decide (0 < IntKind.i64.wrap (n_ - IntKind.i64.wrap (0 - 0))) && (decide (IntKind.i64.wrap (n_ - IntKind.i64.wrap (0 - 0)) * Int.ofNat 128 ≤ Int.ofNat zP) && (decide (IntKind.i64.wrap (n_ - IntKind.i64.wrap (0 - 0)) ≤ Int.ofNat zP) && !Nat.beq 11 0))) (.k (List.take (Int.toNat 0 - Int.toNat 0) (List.replicate (IntKind.i64.wrap (n_ - IntKind.i64.wrap (0 - 0))).toNat (FactorOf.mk (Atom.mk 0 (RowID.mk 0 0) [] 0 [] 0 (Value.mk 0 0 (ByteArray.mk #[]))) 0)))) .d) (.k []))
def zdl (n_ : Int) : Bool × List Factor := (zgE n_).fin default
def zjP (r : List Factor) : ARes ty := ⟨[.own 50 r], []⟩
def zku : AL base (Unit × Int × Unit) := zf (zg zPJ) (zf (zg (vInt .i64)) aNil)
def zjp : Ab.Spec ty := zr zku fun x => ((zdl x.2.1).1, zjP (zdl x.2.1).2)
theorem zpk : Sound Tryz.prog base 158 zjp :=
 zF (cx' := zqA) zR zB zL (zG trivial) Tryz.call158 Tryz.func158 (c := body Tryz.f158) (by kernel_rfl) (zj (l := []) (by kernel_rfl) trivial) (sg := ⟨[.own 50], []⟩) (A := zku) (res := zjP) (W := fun x => zgE x.2.1) (z := default)
abbrev ttTslicesConcatLapiFactorapiFactor0 := List (List Factor) × Int × List (List Factor) × Int × Int × Unit
abbrev ttTslicesConcatLapiFactorapiFactor1 := List (List Factor) × Int
abbrev ttTslicesConcatLapiFactorapiFactor2 := Unit × List (List Factor) × Int × Int × Unit
abbrev ttTslicesConcatLapiFactorapiFactor3 := List Factor × Unit
def zct (slices : List (List Factor)) (size : Int) (t9 : List (List Factor)) (t10 : Int) (t11 : Int) : Wy ttTslicesConcatLapiFactorapiFactor0 (Unit) ttTslicesConcatLapiFactorapiFactor1 := .i (decide (t11 < t10)) (.i (decide (0 ≤ t11) && decide (t11 < Int.ofNat t9.length)) (.i (decide (IntKind.i64.wrap (size + Int.ofNat (List.length (t9.getD t11.toNat default))) < 0)) .d (.h (slices, (IntKind.i64.wrap (size + Int.ofNat (List.length (t9.getD t11.toNat default)))), t9, t10, (IntKind.i64.wrap (t11 + 1)), ()) ())) .d) (.k (slices, size))
def zdF (x : ttTslicesConcatLapiFactorapiFactor0) (y : Unit) : Wy ttTslicesConcatLapiFactorapiFactor0 (Unit) ttTslicesConcatLapiFactorapiFactor1 := zct x.1 x.2.1 x.2.2.1 x.2.2.2.1 x.2.2.2.2.1
def zjq (n : Nat) (slices : List (List Factor)) (size : Int) (t9 : List (List Factor)) (t10 : Int) (t11 : Int) : Bool × ttTslicesConcatLapiFactorapiFactor1 := zN (zdF) default n (slices, size, t9, t10, t11, ()) ()
def ziU (r : ttTslicesConcatLapiFactorapiFactor1) : LTree ty := .done (.exit 0) [.sl 40 r.1, .lit (.int .i64 r.2)] []
def zjn : LL ty ttTslicesConcatLapiFactorapiFactor0 := za (lSl 40) (za (lInt .i64) (za (lSl 40) (za (lInt .i64) (za (lInt .i64) zT))))
def zjr : BL ty (Unit) := bNil
def zcq (t25 : List (List Factor)) (t26 : Int) (t27 : Int) (newslice : List Factor) : Wy ttTslicesConcatLapiFactorapiFactor2 ttTslicesConcatLapiFactorapiFactor3 (List Factor) := .i (decide (t27 < t26)) (.i (decide (0 ≤ t27) && decide (t27 < Int.ofNat t25.length)) (.i (decide ((newslice.length + List.length (t25.getD t27.toNat default)) * 128 ≤ zP)) (.h ((), t25, t26, (IntKind.i64.wrap (t27 + 1)), ()) ((newslice ++ t25.getD t27.toNat default), ())) .d) .d) (.k newslice)
def zdr (x : ttTslicesConcatLapiFactorapiFactor2) (y : ttTslicesConcatLapiFactorapiFactor3) : Wy ttTslicesConcatLapiFactorapiFactor2 ttTslicesConcatLapiFactorapiFactor3 (List Factor) := zcq x.2.1 x.2.2.1 x.2.2.2.1 y.1
def ziK (n : Nat) (t25 : List (List Factor)) (t26 : Int) (t27 : Int) (newslice : List Factor) : Bool × List Factor := zN (zdr) default n ((), t25, t26, t27, ()) (newslice, ())
def ziz (r : List Factor) : LTree ty := .done (.exit 2) [.own 144] [.arr 50 r false]
def zjd : LL ty ttTslicesConcatLapiFactorapiFactor2 := za (lOwn 144) (za (lSl 40) (za (lInt .i64) (za (lInt .i64) zT)))
def zjb : BL ty ttTslicesConcatLapiFactorapiFactor3 := bArr 50 false (bNil)
def zjc (x : ttTslicesConcatLapiFactorapiFactor0) (y : Unit) : Nat := (x.1.length + Int.toNat x.2.1 + x.2.2.1.length + Int.toNat x.2.2.2.1 + Int.toNat x.2.2.2.2.1 + 1)
def ziy (x : ttTslicesConcatLapiFactorapiFactor2) (y : ttTslicesConcatLapiFactorapiFactor3) : Nat := (x.2.1.length + Int.toNat x.2.2.1 + Int.toNat x.2.2.2.1 + y.1.length + 1)
def zfc : Cx ty := mkCx base 36 [(158, zjp)] [] [(3, [(0, .keep), (3, .keep), (9, .keep), (10, .keep), (11, .keep)]), (11, [(6, .keep), (25, .keep), (26, .keep), (27, .keep)])] [(3, 1, [(0, .keep), (3, .keep)]), (11, 3, [(6, .keep)])] [(3, spW zjn zjr (zdF) default ziU zjc), (11, spW zjd zjb (zdr) default ziz ziy)] [158]
theorem zph : zbr zfc (lp (body Tryz.f114) 0) := zZ (id := 3) (V := zjn) (B := zjr) (W := zdF) (z := default) (tr := ziU) (m := zjc)
theorem zoE : zbr zfc (lp (body Tryz.f114) 1) := zZ (id := 11) (V := zjd) (B := zjb) (W := zdr) (z := default) (tr := ziz) (m := ziy)
def zfB (slices : List (List Factor)) : Wy0 (List Factor) := .bn (zjq (slices.length + Int.toNat 0 + slices.length + (Int.ofNat slices.length).toNat + Int.toNat 0 + 1) slices 0 slices (Int.ofNat slices.length) 0) fun r2 => .bn (zdl r2.2) fun r1 => .bn (ziK (r2.1.length + (Int.ofNat r2.1.length).toNat + Int.toNat 0 + r1.length + 1) r2.1 (Int.ofNat r2.1.length) 0 r1) fun r0 => .k r0
def zcU (slices : List (List Factor)) : Bool × List Factor := (zfB slices).fin default
def ziW (r : List Factor) : ARes ty := ⟨[.own 50 r], []⟩
def zjM : AL base (List (List Factor) × Unit) := zf (zg (vSl 40)) aNil
def ziD : Ab.Spec ty := zr zjM fun x => ((zcU x.1).1, ziW (zcU x.1).2)
theorem zn2 : Sound Tryz.prog base 114 ziD :=
 zF (cx' := zfc) zR zB zL (zG ⟨zpk, trivial⟩) Tryz.call114 Tryz.func114 (c := body Tryz.f114) (by kernel_rfl) (zj (l := [lp (body Tryz.f114) 0, lp (body Tryz.f114) 1]) (by kernel_rfl) ⟨zph, zoE, trivial⟩) (sg := ⟨[.own 50], []⟩) (A := zjM) (res := ziW) (W := fun x => zfB x.1) (z := default)
abbrev ttTannotationjoin0 := List Factor × List Factor × Unit × Unit
abbrev ttTannotationjoin1 := List Factor × Unit
abbrev ttTannotationjoin2 := List Factor × List Factor × List Factor
def zq2 (a : List Factor) (b : List Factor) (out_ : List Factor) : Wy ttTannotationjoin0 ttTannotationjoin1 ttTannotationjoin2 := .i (decide (Int.ofNat a.length > 0)) (.i (decide (Int.ofNat b.length > 0)) (.i (decide ((0 : Int) ≤ (0 : Int)) && decide (0 < Int.ofNat a.length)) (.i (decide ((0 : Int) ≤ (0 : Int)) && decide (0 < Int.ofNat b.length)) (.bn (zht (Atom.mk (a.getD (Int.toNat 0) default).Atom.Kind (a.getD (Int.toNat 0) default).Atom.Row (a.getD (Int.toNat 0) default).Atom.Args (a.getD (Int.toNat 0) default).Atom.Func (a.getD (Int.toNat 0) default).Atom.Items (a.getD (Int.toNat 0) default).Atom.Op (a.getD (Int.toNat 0) default).Atom.Bound) (Atom.mk (b.getD (Int.toNat 0) default).Atom.Kind (b.getD (Int.toNat 0) default).Atom.Row (b.getD (Int.toNat 0) default).Atom.Args (b.getD (Int.toNat 0) default).Atom.Func (b.getD (Int.toNat 0) default).Atom.Items (b.getD (Int.toNat 0) default).Atom.Op (b.getD (Int.toNat 0) default).Atom.Bound)) fun r1 => .i (decide (r1 < 0)) (.i (decide ((0 : Int) ≤ (0 : Int)) && decide (0 < Int.ofNat a.length)) (.i (decide ((out_.length + [FactorOf.mk (Atom.mk (a.getD (Int.toNat 0) default).Atom.Kind (a.getD (Int.toNat 0) default).Atom.Row (a.getD (Int.toNat 0) default).Atom.Args (a.getD (Int.toNat 0) default).Atom.Func (a.getD (Int.toNat 0) default).Atom.Items (a.getD (Int.toNat 0) default).Atom.Op (a.getD (Int.toNat 0) default).Atom.Bound) (a.getD (Int.toNat 0) default).Exp].length) * 128 ≤ zP)) (.i (decide ((0 : Int) ≤ (1 : Int)) && decide (1 ≤ Int.ofNat a.length) && decide (Int.ofNat a.length ≤ Int.ofNat a.length)) (.h ((List.take ((Int.ofNat a.length).toNat - Int.toNat 1) (List.drop (Int.toNat 1) a)), b, (), ()) ((out_ ++ [FactorOf.mk (Atom.mk (a.getD (Int.toNat 0) default).Atom.Kind (a.getD (Int.toNat 0) default).Atom.Row (a.getD (Int.toNat 0) default).Atom.Args (a.getD (Int.toNat 0) default).Atom.Func (a.getD (Int.toNat 0) default).Atom.Items (a.getD (Int.toNat 0) default).Atom.Op (a.getD (Int.toNat 0) default).Atom.Bound) (a.getD (Int.toNat 0) default).Exp]), ())) .d) .d) .d) (.i (decide (r1 > 0)) (.i (decide ((0 : Int) ≤ (0 : Int)) && decide (0 < Int.ofNat b.length)) (.i (decide ((out_.length + [FactorOf.mk (Atom.mk (b.getD (Int.toNat 0) default).Atom.Kind (b.getD (Int.toNat 0) default).Atom.Row (b.getD (Int.toNat 0) default).Atom.Args (b.getD (Int.toNat 0) default).Atom.Func (b.getD (Int.toNat 0) default).Atom.Items (b.getD (Int.toNat 0) default).Atom.Op (b.getD (Int.toNat 0) default).Atom.Bound) (b.getD (Int.toNat 0) default).Exp].length) * 128 ≤ zP)) (.i (decide ((0 : Int) ≤ (1 : Int)) && decide (1 ≤ Int.ofNat b.length) && decide (Int.ofNat b.length ≤ Int.ofNat b.length)) (.h (a, (List.take ((Int.ofNat b.length).toNat - Int.toNat 1) (List.drop (Int.toNat 1) b)), (), ()) ((out_ ++ [FactorOf.mk (Atom.mk (b.getD (Int.toNat 0) default).Atom.Kind (b.getD (Int.toNat 0) default).Atom.Row (b.getD (Int.toNat 0) default).Atom.Args (b.getD (Int.toNat 0) default).Atom.Func (b.getD (Int.toNat 0) default).Atom.Items (b.getD (Int.toNat 0) default).Atom.Op (b.getD (Int.toNat 0) default).Atom.Bound) (b.getD (Int.toNat 0) default).Exp]), ())) .d) .d) .d) (.i (decide ((0 : Int) ≤ (0 : Int)) && decide (0 < Int.ofNat a.length)) (.bn (zez (Atom.mk (a.getD (Int.toNat 0) default).Atom.Kind (a.getD (Int.toNat 0) default).Atom.Row (a.getD (Int.toNat 0) default).Atom.Args (a.getD (Int.toNat 0) default).Atom.Func (a.getD (Int.toNat 0) default).Atom.Items (a.getD (Int.toNat 0) default).Atom.Op (a.getD (Int.toNat 0) default).Atom.Bound)) fun r0 => .i (!r0) (.i (decide ((0 : Int) ≤ (0 : Int)) && decide (0 < Int.ofNat b.length)) (.i (decide ((out_.length + [FactorOf.mk (Atom.mk (a.getD (Int.toNat 0) default).Atom.Kind (a.getD (Int.toNat 0) default).Atom.Row (a.getD (Int.toNat 0) default).Atom.Args (a.getD (Int.toNat 0) default).Atom.Func (a.getD (Int.toNat 0) default).Atom.Items (a.getD (Int.toNat 0) default).Atom.Op (a.getD (Int.toNat 0) default).Atom.Bound) (IntKind.i64.wrap ((a.getD (Int.toNat 0) default).Exp + (b.getD (Int.toNat 0) default).Exp))].length) * 128 ≤ zP)) (.i (decide ((0 : Int) ≤ (1 : Int)) && decide (1 ≤ Int.ofNat a.length) && decide (Int.ofNat a.length ≤ Int.ofNat a.length)) (.i (decide ((0 : Int) ≤ (1 : Int)) && decide (1 ≤ Int.ofNat b.length) && decide (Int.ofNat b.length ≤ Int.ofNat b.length)) (.h ((List.take ((Int.ofNat a.length).toNat - Int.toNat 1) (List.drop (Int.toNat 1) a)), (List.take ((Int.ofNat b.length).toNat - Int.toNat 1) (List.drop (Int.toNat 1) b)), (), ()) ((out_ ++ [FactorOf.mk (Atom.mk (a.getD (Int.toNat 0) default).Atom.Kind (a.getD (Int.toNat 0) default).Atom.Row (a.getD (Int.toNat 0) default).Atom.Args (a.getD (Int.toNat 0) default).Atom.Func (a.getD (Int.toNat 0) default).Atom.Items (a.getD (Int.toNat 0) default).Atom.Op (a.getD (Int.toNat 0) default).Atom.Bound) (IntKind.i64.wrap ((a.getD (Int.toNat 0) default).Exp + (b.getD (Int.toNat 0) default).Exp))]), ())) .d) .d) .d) .d) (.i (decide ((out_.length + [FactorOf.mk (Atom.mk (a.getD (Int.toNat 0) default).Atom.Kind (a.getD (Int.toNat 0) default).Atom.Row (a.getD (Int.toNat 0) default).Atom.Args (a.getD (Int.toNat 0) default).Atom.Func (a.getD (Int.toNat 0) default).Atom.Items (a.getD (Int.toNat 0) default).Atom.Op (a.getD (Int.toNat 0) default).Atom.Bound) (a.getD (Int.toNat 0) default).Exp].length) * 128 ≤ zP)) (.i (decide ((0 : Int) ≤ (1 : Int)) && decide (1 ≤ Int.ofNat a.length) && decide (Int.ofNat a.length ≤ Int.ofNat a.length)) (.i (decide ((0 : Int) ≤ (1 : Int)) && decide (1 ≤ Int.ofNat b.length) && decide (Int.ofNat b.length ≤ Int.ofNat b.length)) (.h ((List.take ((Int.ofNat a.length).toNat - Int.toNat 1) (List.drop (Int.toNat 1) a)), (List.take ((Int.ofNat b.length).toNat - Int.toNat 1) (List.drop (Int.toNat 1) b)), (), ()) ((out_ ++ [FactorOf.mk (Atom.mk (a.getD (Int.toNat 0) default).Atom.Kind (a.getD (Int.toNat 0) default).Atom.Row (a.getD (Int.toNat 0) default).Atom.Args (a.getD (Int.toNat 0) default).Atom.Func (a.getD (Int.toNat 0) default).Atom.Items (a.getD (Int.toNat 0) default).Atom.Op (a.getD (Int.toNat 0) default).Atom.Bound) (a.getD (Int.toNat 0) default).Exp]), ())) .d) .d) .d)) .d))) .d) .d) (.k (a, b, out_))) (.k (a, b, out_))
def zqF (x : ttTannotationjoin0) (y : ttTannotationjoin1) : Wy ttTannotationjoin0 ttTannotationjoin1 ttTannotationjoin2 := zq2 x.1 x.2.1 y.1
def zqV (n : Nat) (a : List Factor) (b : List Factor) (out_ : List Factor) : Bool × ttTannotationjoin2 := zN (zqF) default n (a, b, (), ()) (out_, ())
def zwq (r : ttTannotationjoin2) : LTree ty := .done (.exit 0) [.sl 50 r.1, .sl 50 r.2.1, .own 300] [.arr 50 r.2.2 false]
def zxU : LL ty ttTannotationjoin0 := za (lSl 50) (za (lSl 50) (za (lOwn 300) zT))
def zyg : BL ty ttTannotationjoin1 := bArr 50 false (bNil)
def zwp (x : ttTannotationjoin0) (y : ttTannotationjoin1) : Nat := (x.1.length + x.2.1.length + y.1.length + 1)
def zxz : Cx ty := mkCx base 75 [(72, zh6), (73, annotation_compareAtoms_spec), (114, ziD)] [] [(2, [(0, .keep), (1, .keep), (5, .own 50)])] [(2, 1, [(0, .keep), (1, .keep), (5, .keep)])] [(2, spW zxU zyg (zqF) default zwq zwp)] []
theorem zEC : zbr zxz (lp (body Tryz.f59) 0) := zZ (id := 2) (V := zxU) (B := zyg) (W := zqF) (z := default) (tr := zwq) (m := zwp)
def zsC (a : List Factor) (b : List Factor) : Wy0 (List Factor) := .bn (zqV (a.length + b.length + 0 + 1) a b []) fun r5 => .bn (zcU [r5.2.2, r5.1, r5.2.1]) fun r4 => .k r4
def zkP (a : List Factor) (b : List Factor) : Bool × List Factor := (zsC a b).fin default
def zwb (r : List Factor) : ARes ty := ⟨[.own 50 r], []⟩
def zy9 : AL base (List Factor × List Factor × Unit) := zf (zg (vSl 50)) (zf (zg (vSl 50)) aNil)
def zvK : Ab.Spec ty := zr zy9 fun x => ((zkP x.1 x.2.1).1, zwb (zkP x.1 x.2.1).2)
theorem zCO : Sound Tryz.prog base 59 zvK :=
 zF (cx' := zxz) zR zB zL (zG ⟨zkp, znN, zn2, trivial⟩) Tryz.call59 Tryz.func59 (c := body Tryz.f59) (by kernel_rfl) (zj (l := [lp (body Tryz.f59) 0]) (by kernel_rfl) ⟨zEC, trivial⟩) (sg := ⟨[.own 50], []⟩) (A := zy9) (res := zwb) (W := fun x => zsC x.1 x.2.1) (z := default)
def zEM : Cx ty := mkCx base 12 [] [] [] [] [] []
def zqQ (a : Int) (b : Int) : Wy0 (Int) := .i (!decide (b = 0)) (.i (decide (a > IntKind.i64.wrap (Int.tdiv 1152921504606846976 b))) (.k 1152921504606846976) (.k (IntKind.i64.wrap (a * b)))) .d
def zmq (a : Int) (b : Int) : Bool × Int := (zqQ a b).fin default
def zvn (r : Int) : ARes ty := ⟨[.pure (.lit (.int .i64 r))], []⟩
def zxi : AL base (Int × Int × Unit) := zf (zg (vInt .i64)) (zf (zg (vInt .i64)) aNil)
def zue : Ab.Spec ty := zr zxi fun x => ((zmq x.1 x.2.1).1, zvn (zmq x.1 x.2.1).2)
theorem zCc : Sound Tryz.prog base 58 zue :=
 zF (cx' := zEM) zR zB zL (zG trivial) Tryz.call58 Tryz.func58 (c := body Tryz.f58) (by kernel_rfl) (zj (l := []) (by kernel_rfl) trivial) (sg := ⟨[.pure], []⟩) (A := zxi) (res := zvn) (W := fun x => zqQ x.1 x.2.1) (z := default)
abbrev ttTannotationMul0 := List Term × Unit × Unit × List Term × Int × Int × List Term × Int × Int × Unit
abbrev ttTannotationMul1 := List Term × Term × Unit
abbrev ttTannotationMul2 := List Term × List Term × Int × Int × List Term
abbrev ttTannotationMul3 := List Term × Unit × List Term × Int × Int × Unit
abbrev ttTannotationMul4 := List Term × Unit
def zln (b : List Term) (t19 : List Term) (t20 : Int) (t21 : Int) (t25 : List Term) (t26 : Int) (t27 : Int) (terms : List Term) (x_ : Term) : Wy ttTannotationMul0 ttTannotationMul1 ttTannotationMul2 := .i (decide (t27 < t26)) (.i (decide (0 ≤ t27) && decide (t27 < Int.ofNat t25.length)) (.bn (zmq x_.Coeff (t25.getD t27.toNat default).Coeff) fun r5 => .bn (zkP x_.Factors (t25.getD t27.toNat default).Factors) fun r4 => .i (decide ((terms.length + [TermOf.mk r5 r4].length) * 32 ≤ zP)) (.h (b, (), (), t19, t20, t21, t25, t26, (IntKind.i64.wrap (t27 + 1)), ()) ((terms ++ [TermOf.mk r5 r4]), x_, ())) .d) .d) (.k (b, t19, t20, t21, terms))
def znS (x : ttTannotationMul0) (y : ttTannotationMul1) : Wy ttTannotationMul0 ttTannotationMul1 ttTannotationMul2 := zln x.1 x.2.2.2.1 x.2.2.2.2.1 x.2.2.2.2.2.1 x.2.2.2.2.2.2.1 x.2.2.2.2.2.2.2.1 x.2.2.2.2.2.2.2.2.1 y.1 y.2.1
def zy5 (n : Nat) (b : List Term) (t19 : List Term) (t20 : Int) (t21 : Int) (t25 : List Term) (t26 : Int) (t27 : Int) (terms : List Term) (x_ : Term) : Bool × ttTannotationMul2 := zN (znS) default n (b, (), (), t19, t20, t21, t25, t26, t27, ()) (terms, x_, ())
def zxA (r : ttTannotationMul2) : LTree ty := .done (.exit 2) [.sl 42 r.1, .own 208, .sl 42 r.2.1, .lit (.int .i64 r.2.2.1), .lit (.int .i64 r.2.2.2.1)] [.arr 42 r.2.2.2.2 false]
def zyN : LL ty ttTannotationMul0 := za (lSl 42) (za (lOwn 208) (za (zqn 209 0) (za (lSl 42) (za (lInt .i64) (za (lInt .i64) (za (lSl 42) (za (lInt .i64) (za (lInt .i64) zT))))))))
def zy0 : BL ty ttTannotationMul1 := bArr 42 false (bBox (ztu (fun x => (⟨x.1, x.2.1⟩ : Term)) (fun x => (x.Coeff, x.Factors, ())) (fun _ => rfl) (za (lInt .i64) (za (lSl 50) zT))) false (bNil))
def zlf (b : List Term) (t19 : List Term) (t20 : Int) (t21 : Int) (terms : List Term) : Wy ttTannotationMul3 ttTannotationMul4 (List Term) := .i (decide (t21 < t20)) (.i (decide (0 ≤ t21) && decide (t21 < Int.ofNat t19.length)) (.bn (zy5 (b.length + t19.length + t20.toNat + t21.toNat + b.length + (Int.ofNat b.length).toNat + Int.toNat 0 + terms.length + (t19.getD t21.toNat default).Factors.length + 1) b t19 t20 t21 b (Int.ofNat b.length) 0 terms (t19.getD t21.toNat default)) fun r8 => .h ((r8.1), (), (r8.2.1), (r8.2.2.1), (IntKind.i64.wrap (r8.2.2.2.1 + 1)), ()) ((r8.2.2.2.2), ())) .d) (.k terms)
def znT (x : ttTannotationMul3) (y : ttTannotationMul4) : Wy ttTannotationMul3 ttTannotationMul4 (List Term) := zlf x.1 x.2.2.1 x.2.2.2.1 x.2.2.2.2.1 y.1
def zsz (n : Nat) (b : List Term) (t19 : List Term) (t20 : Int) (t21 : Int) (terms : List Term) : Bool × List Term := zN (znT) default n (b, (), t19, t20, t21, ()) (terms, ())
def zxO (r : List Term) : LTree ty := .done (.exit 0) [.own 208] [.arr 42 r false]
def zyQ : LL ty ttTannotationMul3 := za (lSl 42) (za (lOwn 208) (za (lSl 42) (za (lInt .i64) (za (lInt .i64) zT))))
def zyY : BL ty ttTannotationMul4 := bArr 42 false (bNil)
def zxh (x : ttTannotationMul0) (y : ttTannotationMul1) : Nat := (x.1.length + x.2.2.2.1.length + Int.toNat x.2.2.2.2.1 + Int.toNat x.2.2.2.2.2.1 + x.2.2.2.2.2.2.1.length + Int.toNat x.2.2.2.2.2.2.2.1 + Int.toNat x.2.2.2.2.2.2.2.2.1 + y.1.length + y.2.1.Factors.length + 1)
def zxE (x : ttTannotationMul3) (y : ttTannotationMul4) : Nat := (x.1.length + x.2.2.1.length + Int.toNat x.2.2.2.1 + Int.toNat x.2.2.2.2.1 + y.1.length + 1)
def zsA : Cx ty := mkCx base0 52 [(31, annotation_Valid_spec), (53, zd1), (54, zmM), (58, zue), (59, zvK)] [] [(5, [(1, .keep), (6, .own 42), (19, .keep), (20, .keep), (21, .keep)]), (8, [(1, .keep), (6, .own 42), (8, .keep), (19, .keep), (20, .keep), (21, .keep), (25, .keep), (26, .keep), (27, .keep)])] [(5, 1, [(6, .keep)]), (8, 3, [(1, .keep), (6, .keep), (19, .keep), (20, .keep), (21, .keep)])] [(8, spW zyN zy0 (znS) default zxA zxh), (5, spW zyQ zyY (znT) default zxO zxE)] []
theorem zFt : zbr zsA (lp (body Tryz.f16) 1) := zZ (id := 8) (V := zyN) (B := zy0) (W := znS) (z := default) (tr := zxA) (m := zxh)
theorem zFs : zbr zsA (lp (body Tryz.f16) 0) := zZ (id := 5) (V := zyQ) (B := zyY) (W := znT) (z := default) (tr := zxO) (m := zxE)
def ztL (a : List Term) (b : List Term) : Wy0 (List Term × Int) := .bn (zbE a) fun r14 => .i (!r14) (.k ([], 1)) (.bn (zbE b) fun r13 => .i (!r13) (.k ([], 1)) (.bn (zsz (b.length + a.length + (Int.ofNat a.length).toNat + Int.toNat 0 + 0 + 1) b a (Int.ofNat a.length) 0 []) fun r12 => .bn (zgK r12) fun r11 => .bn (zdy r11) fun r10 => .k (r10.1, r10.2)))
def zc8 (a : List Term) (b : List Term) : Bool × (List Term × Int) := (ztL a b).fin default
def zxx (r : List Term × Int) : ARes ty := ⟨[.own 42 r.1, .pure (.lit (.int .i64 r.2))], []⟩
def zzO : AL base0 (List Term × List Term × Unit) := zf (zg (vSl 42)) (zf (zg (vSl 42)) aNil)
def zmD : Ab.Spec ty := zr zzO fun x => ((zc8 x.1 x.2.1).1, zxx (zc8 x.1 x.2.1).2)
theorem zpc : Sound Tryz.prog base0 16 zmD :=
 zF (cx' := zsA) zR zic zL (zG ⟨zcm.nodr, zep.nodr, zrf, zCc.nodr, zCO.nodr, trivial⟩) Tryz.call16 Tryz.func16 (c := body Tryz.f16) (by kernel_rfl) (zj (l := [lp (body Tryz.f16) 0, lp (body Tryz.f16) 1]) (by kernel_rfl) ⟨zFs, zFt, trivial⟩) (sg := ⟨[.own 42, .pure], []⟩) (A := zzO) (res := zxx) (W := fun x => ztL x.1 x.2.1) (z := default)
def zGi : Cx ty := mkCx base 3 [] [] [] [] [] []
def zAo : Wy0 (List Term) := .k [TermOf.mk 1 []]
def zj4 : Bool × List Term := (zAo).fin default
def zxs (r : List Term) : ARes ty := ⟨[.own 42 r], []⟩
def zAZ : AL base (Unit) := aNil
def zjN : Ab.Spec ty := zr zAZ fun x => ((zj4 ).1, zxs (zj4 ).2)
theorem zlC : Sound Tryz.prog base 29 zjN :=
 zF (cx' := zGi) zR zB zL (zG trivial) Tryz.call29 Tryz.func29 (c := body Tryz.f29) (by kernel_rfl) (zj (l := []) (by kernel_rfl) trivial) (sg := ⟨[.own 42], []⟩) (A := zAZ) (res := zxs) (W := fun x => zAo ) (z := default)
def zED : Cx ty := mkCx base 9 [] [] [] [] [] []
def zxH (n_ : Int) : Wy0 (List Term) := .i (decide (n_ < 1)) (.k []) (.k [TermOf.mk (if 1152921504606846976 < n_ then 1152921504606846976 else n_) []])
def ztC (n_ : Int) : Bool × List Term := (zxH n_).fin default
def zvm (r : List Term) : ARes ty := ⟨[.own 42 r], []⟩
def zx7 : AL base (Int × Unit) := zf (zg (vInt .i64)) aNil
def zoe : Ab.Spec ty := zr zx7 fun x => ((ztC x.1).1, zvm (ztC x.1).2)
theorem ztd : Sound Tryz.prog base 25 zoe :=
 zF (cx' := zED) zR zB zL (zG trivial) Tryz.call25 Tryz.func25 (c := body Tryz.f25) (by kernel_rfl) (zj (l := []) (by kernel_rfl) trivial) (sg := ⟨[.own 42], []⟩) (A := zx7) (res := zvm) (W := fun x => zxH x.1) (z := default)
def zDV : Cx ty := mkCx base 8 [] [] [] [] [] []
def zwc (x_ : Atom) : Wy0 (List Term) := .k [TermOf.mk 1 [FactorOf.mk (Atom.mk x_.Kind x_.Row x_.Args x_.Func x_.Items x_.Op x_.Bound) 1]]
def zhC (x_ : Atom) : Bool × List Term := (zwc x_).fin default
def ztR (r : List Term) : ARes ty := ⟨[.own 42 r], []⟩
def zv0 : AL base (Atom × Unit) := zf (zg (vAgg 48)) aNil
def zff : Ab.Spec ty := zr zv0 fun x => ((zhC x.1).1, ztR (zhC x.1).2)
theorem zhk : Sound Tryz.prog base 62 zff :=
 zF (cx' := zDV) zR zB zL (zG trivial) Tryz.call62 Tryz.func62 (c := body Tryz.f62) (by kernel_rfl) (zj (l := []) (by kernel_rfl) trivial) (sg := ⟨[.own 42], []⟩) (A := zv0) (res := ztR) (W := fun x => zwc x.1) (z := default)
def zEH : Cx ty := mkCx base 29 [(29, zjN), (31, annotation_Valid_spec), (53, zd1), (61, annotation_copied_spec), (62, zff), (64, znq), (65, zk6)] [] [] [] [] []
def zyc (a : List Term) : Wy0 (List Term × Int) := .bn (zbE a) fun r5 => .i (!r5) (.k ([], 1)) (.i (Int.ofNat a.length == 0) (.bn (zfq a) fun r0 => .k (r0, 0)) (.bn (zji a) fun r4 => .i (r4) (.bn (zfq a) fun r1 => .k (r1, 0)) (.bn (zgd a) fun r3 => .i (r3) (.k (zj4.2, 0)) (.bn (zdy (zhC (Atom.mk 2 (RowID.mk 0 0) [a] 0 [] 0 (Value.mk 0 0 (ByteArray.mk #[])))).2) fun r2 => .k (r2.1, r2.2)))))
def ztN (a : List Term) : Bool × (List Term × Int) := (zyc a).fin default
def zuL (r : List Term × Int) : ARes ty := ⟨[.own 42 r.1, .pure (.lit (.int .i64 r.2))], []⟩
def zxI : AL base (List Term × Unit) := zf (zg (vSl 42)) aNil
def zoc : Ab.Spec ty := zr zxI fun x => ((ztN x.1).1, zuL (ztN x.1).2)
theorem zsZ : Sound Tryz.prog base 20 zoc :=
 zF (cx' := zEH) zR zB zL (zG ⟨zlC, zcm, zep, zhl, zhk, zrX, zoT, trivial⟩) Tryz.call20 Tryz.func20 (c := body Tryz.f20) (by kernel_rfl) (zj (l := []) (by kernel_rfl) trivial) (sg := ⟨[.own 42, .pure], []⟩) (A := zxI) (res := zuL) (W := fun x => zyc x.1) (z := default)
def zD0 : Cx ty := mkCx base0 8 [(31, annotation_Valid_spec), (109, annotation_text_spec)] [] [] [] [] []
def zwg (a : List Term) : Wy0 (ByteArray) := .bn (zbE a) fun r1 => .i (!r1) (.k (ByteArray.mk #[])) (.bn (zBK a) fun r0 => .k r0)
def zy4 (a : List Term) : Bool × ByteArray := (zwg a).fin default
def zuc (r : ByteArray) : ARes ty := ⟨[.pure (.lit (.string r))], []⟩
def zv2 : AL base0 (List Term × Unit) := zf (zg (vSl 42)) aNil
def zs3 : Ab.Spec ty := zr zv2 fun x => ((zy4 x.1).1, zuc (zy4 x.1).2)
theorem zBh : Sound Tryz.prog base0 51 zs3 :=
 zF (cx' := zD0) zR zic zL (zG ⟨zcm.nodr, zCV, trivial⟩) Tryz.call51 Tryz.func51 (c := body Tryz.f51) (by kernel_rfl) (zj (l := []) (by kernel_rfl) trivial) (sg := ⟨[.pure], []⟩) (A := zv2) (res := zuc) (W := fun x => zwg x.1) (z := default)
def zEG : Cx ty := mkCx base 38 [(31, annotation_Valid_spec), (32, zkM), (53, zd1), (61, annotation_copied_spec), (62, zff)] [] [] [] [] []
def zxT (a : List Term) (b : List Term) : Wy0 (List Term × Int) := .bn (zbE a) fun r4 => .i (!r4) (.k ([], 1)) (.bn (zbE b) fun r3 => .i (!r3) (.k ([], 1)) (.i (Int.ofNat b.length == 0) (.bn (zfq a) fun r0 => .k (r0, 0)) (.i (Int.ofNat a.length == 0) (.k ([], 0)) (.bn (zb0 a b) fun r2 => .i (r2) (.k ([], 0)) (.bn (zdy (zhC (Atom.mk 1 (RowID.mk 0 0) [a, b] 0 [] 0 (Value.mk 0 0 (ByteArray.mk #[])))).2) fun r1 => .k (r1.1, r1.2))))))
def ztx (a : List Term) (b : List Term) : Bool × (List Term × Int) := (zxT a b).fin default
def zvk (r : List Term × Int) : ARes ty := ⟨[.own 42 r.1, .pure (.lit (.int .i64 r.2))], []⟩
def zxq : AL base (List Term × List Term × Unit) := zf (zg (vSl 42)) (zf (zg (vSl 42)) aNil)
def zov : Ab.Spec ty := zr zxq fun x => ((ztx x.1 x.2.1).1, zvk (ztx x.1 x.2.1).2)
theorem zsX : Sound Tryz.prog base 18 zov :=
 zF (cx' := zEG) zR zB zL (zG ⟨zcm, znx, zep, zhl, zhk, trivial⟩) Tryz.call18 Tryz.func18 (c := body Tryz.f18) (by kernel_rfl) (zj (l := []) (by kernel_rfl) trivial) (sg := ⟨[.own 42, .pure], []⟩) (A := zxq) (res := zvk) (W := fun x => zxT x.1 x.2.1) (z := default)
def zsP (r : List Term × Int) : ARes ty := ⟨[.own 42 r.1, .pure (.lit (.int .i64 r.2))], []⟩
def zva : AL base0 (List Term × ((List Binding × Unit) × Unit) × Unit) := zf (zg (vSl 42)) (zf (zg (vFn 93 (zrN (vBox (zrN (vSl 69) vNil)) vNil))) aNil)
def zi0 (F : List Term → List Binding → Bool × (List Term × Int)) : Ab.Spec ty := zr zva fun x => ((F x.1 x.2.1.1.1).1, zsP (F x.1 x.2.1.1.1).2)
def zpw (r : List Term × Int) : ARes ty := ⟨[.own 42 r.1, .pure (.lit (.int .i64 r.2))], []⟩
def zrv : AL base0 (Atom × ((List Binding × Unit) × Unit) × Unit) := zf (zg (vAgg 48)) (zf (zg (vFn 93 (zrN (vBox (zrN (vSl 69) vNil)) vNil))) aNil)
def zi3 (F : Atom → List Binding → Bool × (List Term × Int)) : Ab.Spec ty := zr zrv fun x => ((F x.1 x.2.1.1.1).1, zpw (F x.1 x.2.1.1.1).2)
def zuX : Cx ty := mkCx base 8 [] [] [] [] [] []
def znJ (b : Binding) (p1 : RowID) : Wy0 (Bool) := .k (b.Row.Table == p1.Table && (b.Row.Seq == p1.Seq && true))
def zkr (b : Binding) (p1 : RowID) : Bool × Bool := (znJ b p1).fin default
def zmL (r : Bool) : ARes ty := ⟨[.pure (.lit (.bool r))], []⟩
def znO : AL base (Binding × RowID × Unit) := zf (zg (vAgg 69)) (zf (zg (zHF 25)) aNil)
def zh9 : Ab.Spec ty := zr znO fun x => ((zkr x.1 x.2.1).1, zmL (zkr x.1 x.2.1).2)
theorem zlW : Sound Tryz.prog base 95 zh9 :=
 zF (cx' := zuX) zR zB zL (zG trivial) Tryz.call95 Tryz.func95 (c := body Tryz.f95) (by kernel_rfl) (zj (l := []) (by kernel_rfl) trivial) (sg := ⟨[.pure], []⟩) (A := znO) (res := zmL) (W := fun x => znJ x.1 x.2.1) (z := default)
def zGd : Cx ty := mkCx base 9 [(62, zff), (69, znW)] [] [] [] [] []
def zAu (id : RowID) : Wy0 (List Term) := .bn (zmb id) fun r0 => .i (!r0) (.k []) (.k ((zhC (Atom.mk 0 id [] 0 [] 0 (Value.mk 0 0 (ByteArray.mk #[])))).2))
def zw1 (id : RowID) : Bool × List Term := (zAu id).fin default
def zxe (r : List Term) : ARes ty := ⟨[.own 42 r], []⟩
def zAd : AL base (RowID × Unit) := zf (zg (vAgg 25)) aNil
def zp3 : Ab.Spec ty := zr zAd fun x => ((zw1 x.1).1, zxe (zw1 x.1).2)
theorem zu7 : Sound Tryz.prog base 27 zp3 :=
 zF (cx' := zGd) zR zB zL (zG ⟨zhk, zro, trivial⟩) Tryz.call27 Tryz.func27 (c := body Tryz.f27) (by kernel_rfl) (zj (l := []) (by kernel_rfl) trivial) (sg := ⟨[.own 42], []⟩) (A := zAd) (res := zxe) (W := fun x => zAu x.1) (z := default)
abbrev ttTslicesIndexFuncLapiBindingapiBindings20 := List Binding × (RowID × Unit) × Int × Int × Unit
def zmJ (s : List Binding) (f : RowID) (t7 : Int) (t8 : Int) : Wy ttTslicesIndexFuncLapiBindingapiBindings20 (Unit) (Int ⊕ Unit) := .i (decide (t8 < t7)) (.i (decide (0 ≤ t8) && decide (t8 < Int.ofNat s.length)) (.i ((zkr (s.getD t8.toNat default) f).2) (.k (.inl t8)) (.h (s, (f, ()), t7, (IntKind.i64.wrap (t8 + 1)), ()) ())) .d) (.k (.inr ()))
def zdX (x : ttTslicesIndexFuncLapiBindingapiBindings20) (y : Unit) : Wy ttTslicesIndexFuncLapiBindingapiBindings20 (Unit) (Int ⊕ Unit) := zmJ x.1 x.2.1.1 x.2.2.1 x.2.2.2.1
def zmI (n : Nat) (s : List Binding) (f : RowID) (t7 : Int) (t8 : Int) : Bool × (Int ⊕ Unit) := zN (zdX) (.inl default) n (s, (f, ()), t7, t8, ()) ()
def zgw (r : Int ⊕ Unit) : LTree ty := .ite (isL r) (.done .ret [.lit (.int .i64 (getL r))] []) (.done (.exit 0) [] [])
def zg5 : LL ty ttTslicesIndexFuncLapiBindingapiBindings20 := za (lSl 69) (za (lFn 95 (za (zxp (ztu (fun x => (⟨x.1, x.2.1⟩ : RowID)) (fun x => (x.Table, x.Seq, ())) (fun _ => rfl) (za (lInt .i64) (za (lInt .i64) zT))) 0) zT)) (za (lInt .i64) (za (lInt .i64) zT)))
def zgZ : BL ty (Unit) := bNil
def zgH (x : ttTslicesIndexFuncLapiBindingapiBindings20) (y : Unit) : Nat := (x.1.length + Int.toNat x.2.2.1 + Int.toNat x.2.2.2.1 + 1)
def zgW : Cx ty := mkCx base 19 [(95, zh9)] [] [(2, [(0, .keep), (1, .keep), (7, .keep), (8, .keep)])] [(2, 1, []), (2, 0, [(4, .keep)])] [(2, spW zg5 zgZ (zdX) (.inl default) zgw zgH)] []
theorem zms : zbr zgW (lp (body Tryz.f94) 0) := zZ (id := 2) (V := zg5) (B := zgZ) (W := zdX) (z := .inl default) (tr := zgw) (m := zgH)
def zhq (s : List Binding) (f : RowID) : Wy0 (Int) := .bn (zmI (s.length + (Int.ofNat s.length).toNat + Int.toNat 0 + 1) s f (Int.ofNat s.length) 0) fun r0 => .i (isL r0) (.k (getL r0)) (.k (-1 : Int))
def zed (s : List Binding) (f : RowID) : Bool × Int := (zhq s f).fin default
def zgz (r : Int) : ARes ty := ⟨[.pure (.lit (.int .i64 r))], []⟩
def zhv : AL base (List Binding × (RowID × Unit) × Unit) := zf (zg (vSl 69)) (zf (zg (vFn 95 (zrN (zHF 25) vNil))) aNil)
def zf9 : Ab.Spec ty := zr zhv fun x => ((zed x.1 x.2.1.1).1, zgz (zed x.1 x.2.1.1).2)
theorem zlN : Sound Tryz.prog base 94 zf9 :=
 zF (cx' := zgW) zR zB zL (zG ⟨zlW, trivial⟩) Tryz.call94 Tryz.func94 (c := body Tryz.f94) (by kernel_rfl) (zj (l := [lp (body Tryz.f94) 0]) (by kernel_rfl) ⟨zms, trivial⟩) (sg := ⟨[.pure], []⟩) (A := zhv) (res := zgz) (W := fun x => zhq x.1 x.2.1.1) (z := default)
def zxm : Cx ty := mkCx base 18 [(27, zp3), (61, annotation_copied_spec), (94, zf9), (95, zh9)] [] [] [] [] []
def zpL (id : RowID) (p1 : List Binding) : Wy0 (List Term) := .bn (zed p1 id) fun r2 => .i (decide (r2 ≥ 0)) (.i (decide (0 ≤ r2) && decide (r2 < Int.ofNat p1.length)) (.bn (zfq (p1.getD r2.toNat default).To) fun r0 => .k r0) .d) (.bn (zw1 id) fun r1 => .k r1)
def zmv (id : RowID) (p1 : List Binding) : Bool × List Term := (zpL id p1).fin default
def zon (r : List Term) : ARes ty := ⟨[.own 42 r], []⟩
def zpx : AL base (RowID × (List Binding × Unit) × Unit) := zf (zg (vAgg 25)) (zf (zg (vBox (zrN (vSl 69) vNil))) aNil)
def zgn : Ab.Spec ty := zr zpx fun x => ((zmv x.1 x.2.1.1).1, zon (zmv x.1 x.2.1.1).2)
theorem zi6 : Sound Tryz.prog base 93 zgn :=
 zF (cx' := zxm) zR zB zL (zG ⟨zu7, zhl, zlN, zlW, trivial⟩) Tryz.call93 Tryz.func93 (c := body Tryz.f93) (by kernel_rfl) (zj (l := []) (by kernel_rfl) trivial) (sg := ⟨[.own 42], []⟩) (A := zpx) (res := zon) (W := fun x => zpL x.1 x.2.1.1) (z := default)
abbrev ttTannotationreplace0 := ((List Binding × Unit) × Unit) × Unit × Unit × List Term × Int × List Term × Int × Int × List Factor × Int × Int × Int × Int × Unit
abbrev ttTannotationreplace1 := List Term × List Term × Unit
abbrev ttTannotationreplace2 := List Binding × Int × List Term × Int × Int × List Factor × Int × Int × List Term × List Term
abbrev ttTannotationreplace3 := ((List Binding × Unit) × Unit) × Unit × Unit × List Term × Int × Int × List Factor × Int × Int × Unit
abbrev ttTannotationreplace4 := Int ⊕ (List Binding × List Term × Int × Int × List Term × List Term)
abbrev ttTannotationreplace5 := ((List Binding × Unit) × Unit) × Unit × List Term × Int × Int × Unit
abbrev ttTannotationreplace6 := List Term × Unit
abbrev ttTannotationreplace7 := Int ⊕ List Term
def zAg (zi : Atom → List Binding → Bool × (List Term × Int)) (to : List Binding) (b : List Term) (e : Int) (t16 : List Term) (t17 : Int) (t18 : Int) (t26 : List Factor) (t27 : Int) (t28 : Int) (t40 : Int) (t41 : Int) (sum : List Term) (product : List Term) : Wy ttTannotationreplace0 ttTannotationreplace1 ttTannotationreplace2 := .i (decide (t41 < t40)) (.i (e == 0) (.bn (zc8 product b) fun r6 => .h (((to, ()), ()), (), (), b, (r6.2), t16, t17, t18, t26, t27, t28, t40, (IntKind.i64.wrap (t41 + 1)), ()) (sum, (r6.1), ())) (.h (((to, ()), ()), (), (), b, e, t16, t17, t18, t26, t27, t28, t40, (IntKind.i64.wrap (t41 + 1)), ()) (sum, product, ()))) (.k (to, e, t16, t17, t18, t26, t27, t28, sum, product))
def zmt (zi : Atom → List Binding → Bool × (List Term × Int)) (x : ttTannotationreplace0) (y : ttTannotationreplace1) : Wy ttTannotationreplace0 ttTannotationreplace1 ttTannotationreplace2 := zAg zi x.1.1.1 x.2.2.2.1 x.2.2.2.2.1 x.2.2.2.2.2.1 x.2.2.2.2.2.2.1 x.2.2.2.2.2.2.2.1 x.2.2.2.2.2.2.2.2.1 x.2.2.2.2.2.2.2.2.2.1 x.2.2.2.2.2.2.2.2.2.2.1 x.2.2.2.2.2.2.2.2.2.2.2.1 x.2.2.2.2.2.2.2.2.2.2.2.2.1 y.1 y.2.1
def zz4 (zi : Atom → List Binding → Bool × (List Term × Int)) (n : Nat) (to : List Binding) (b : List Term) (e : Int) (t16 : List Term) (t17 : Int) (t18 : Int) (t26 : List Factor) (t27 : Int) (t28 : Int) (t40 : Int) (t41 : Int) (sum : List Term) (product : List Term) : Bool × ttTannotationreplace2 := zN (zmt zi) default n (((to, ()), ()), (), (), b, e, t16, t17, t18, t26, t27, t28, t40, t41, ()) (sum, product, ())
def zqj (r : ttTannotationreplace2) : LTree ty := .done (.exit 4) [.fn 93 ([.bptr ([.sl 69 r.1]) 0]), .own 272, .own 273, .lit (.int .i64 r.2.1), .sl 42 r.2.2.1, .lit (.int .i64 r.2.2.2.1), .lit (.int .i64 r.2.2.2.2.1), .sl 50 r.2.2.2.2.2.1, .lit (.int .i64 r.2.2.2.2.2.2.1), .lit (.int .i64 r.2.2.2.2.2.2.2.1)] [.arr 42 r.2.2.2.2.2.2.2.2.1 false, .arr 42 r.2.2.2.2.2.2.2.2.2 false]
def zry : LL ty ttTannotationreplace0 := za (lFn 93 (za (zxp (za (lSl 69) zT) 0) zT)) (za (lOwn 272) (za (lOwn 273) (za (lSl 42) (za (lInt .i64) (za (lSl 42) (za (lInt .i64) (za (lInt .i64) (za (lSl 50) (za (lInt .i64) (za (lInt .i64) (za (lInt .i64) (za (lInt .i64) zT))))))))))))
def zqC : BL ty ttTannotationreplace1 := bArr 42 false (bArr 42 false (bNil))
def zBp (zi : Atom → List Binding → Bool × (List Term × Int)) (to : List Binding) (t16 : List Term) (t17 : Int) (t18 : Int) (t26 : List Factor) (t27 : Int) (t28 : Int) (sum : List Term) (product : List Term) : Wy ttTannotationreplace3 ttTannotationreplace1 ttTannotationreplace4 := .i (decide (t28 < t27)) (.i (decide (0 ≤ t28) && decide (t28 < Int.ofNat t26.length)) (.bn (zi (Atom.mk (t26.getD t28.toNat default).Atom.Kind (t26.getD t28.toNat default).Atom.Row (t26.getD t28.toNat default).Atom.Args (t26.getD t28.toNat default).Atom.Func (t26.getD t28.toNat default).Atom.Items (t26.getD t28.toNat default).Atom.Op (t26.getD t28.toNat default).Atom.Bound) to) fun r9 => .bn (zz4 zi (to.length + r9.1.length + r9.2.toNat + t16.length + t17.toNat + t18.toNat + t26.length + t27.toNat + t28.toNat + (t26.getD t28.toNat default).Exp.toNat + Int.toNat 0 + sum.length + product.length + 1) to r9.1 r9.2 t16 t17 t18 t26 t27 t28 (t26.getD t28.toNat default).Exp 0 sum product) fun r8 => .i (r8.2.1 != 0) (.k (.inl (r8.2.1))) (.h ((((r8.1), ()), ()), (), (), (r8.2.2.1), (r8.2.2.2.1), (r8.2.2.2.2.1), (r8.2.2.2.2.2.1), (r8.2.2.2.2.2.2.1), (IntKind.i64.wrap (r8.2.2.2.2.2.2.2.1 + 1)), ()) ((r8.2.2.2.2.2.2.2.2.1), (r8.2.2.2.2.2.2.2.2.2), ()))) .d) (.k (.inr (to, t16, t17, t18, sum, product)))
def zmN (zi : Atom → List Binding → Bool × (List Term × Int)) (x : ttTannotationreplace3) (y : ttTannotationreplace1) : Wy ttTannotationreplace3 ttTannotationreplace1 ttTannotationreplace4 := zBp zi x.1.1.1 x.2.2.2.1 x.2.2.2.2.1 x.2.2.2.2.2.1 x.2.2.2.2.2.2.1 x.2.2.2.2.2.2.2.1 x.2.2.2.2.2.2.2.2.1 y.1 y.2.1
def zBd (zi : Atom → List Binding → Bool × (List Term × Int)) (n : Nat) (to : List Binding) (t16 : List Term) (t17 : Int) (t18 : Int) (t26 : List Factor) (t27 : Int) (t28 : Int) (sum : List Term) (product : List Term) : Bool × ttTannotationreplace4 := zN (zmN zi) (.inl default) n (((to, ()), ()), (), (), t16, t17, t18, t26, t27, t28, ()) (sum, product, ())
def zrD (r : ttTannotationreplace4) : LTree ty := .ite (isL r) (.done .ret [.lit (.slice none 0 0), .lit (.int .i64 (getL r))] []) (.done (.exit 2) [.fn 93 ([.bptr ([.sl 69 (getR r).1]) 0]), .own 272, .own 273, .sl 42 (getR r).2.1, .lit (.int .i64 (getR r).2.2.1), .lit (.int .i64 (getR r).2.2.2.1)] [.arr 42 (getR r).2.2.2.2.1 false, .arr 42 (getR r).2.2.2.2.2 false])
def zsa : LL ty ttTannotationreplace3 := za (lFn 93 (za (zxp (za (lSl 69) zT) 0) zT)) (za (lOwn 272) (za (lOwn 273) (za (lSl 42) (za (lInt .i64) (za (lInt .i64) (za (lSl 50) (za (lInt .i64) (za (lInt .i64) zT))))))))
def zsj : BL ty ttTannotationreplace1 := bArr 42 false (bArr 42 false (bNil))
def zBi (zi : Atom → List Binding → Bool × (List Term × Int)) (to : List Binding) (t16 : List Term) (t17 : Int) (t18 : Int) (sum : List Term) : Wy ttTannotationreplace5 ttTannotationreplace6 ttTannotationreplace7 := .i (decide (t18 < t17)) (.i (decide (0 ≤ t18) && decide (t18 < Int.ofNat t16.length)) (.bn (ztC (t16.getD t18.toNat default).Coeff) fun r14 => .bn (zBd zi (to.length + t16.length + t17.toNat + t18.toNat + (t16.getD t18.toNat default).Factors.length + (Int.ofNat (t16.getD t18.toNat default).Factors.length).toNat + Int.toNat 0 + sum.length + r14.length + 1) to t16 t17 t18 (t16.getD t18.toNat default).Factors (Int.ofNat (t16.getD t18.toNat default).Factors.length) 0 sum r14) fun r13 => .i (isL r13) (.k (.inl (getL r13))) (.bn (zd5 (getR r13).2.2.2.2.1 (getR r13).2.2.2.2.2) fun r12 => .i (r12.2 != 0) (.k (.inl (r12.2))) (.h ((((getR r13).1, ()), ()), (), (getR r13).2.1, (getR r13).2.2.1, (IntKind.i64.wrap ((getR r13).2.2.2.1 + 1)), ()) ((r12.1), ())))) .d) (.k (.inr sum))
def zmS (zi : Atom → List Binding → Bool × (List Term × Int)) (x : ttTannotationreplace5) (y : ttTannotationreplace6) : Wy ttTannotationreplace5 ttTannotationreplace6 ttTannotationreplace7 := zBi zi x.1.1.1 x.2.2.1 x.2.2.2.1 x.2.2.2.2.1 y.1
def zBo (zi : Atom → List Binding → Bool × (List Term × Int)) (n : Nat) (to : List Binding) (t16 : List Term) (t17 : Int) (t18 : Int) (sum : List Term) : Bool × ttTannotationreplace7 := zN (zmS zi) (.inl default) n (((to, ()), ()), (), t16, t17, t18, ()) (sum, ())
def zra (r : ttTannotationreplace7) : LTree ty := .ite (isL r) (.done .ret [.lit (.slice none 0 0), .lit (.int .i64 (getL r))] []) (.done (.exit 0) [.own 272] [.arr 42 (getR r) false])
def zsg : LL ty ttTannotationreplace5 := za (lFn 93 (za (zxp (za (lSl 69) zT) 0) zT)) (za (lOwn 272) (za (lSl 42) (za (lInt .i64) (za (lInt .i64) zT))))
def zrY : BL ty ttTannotationreplace6 := bArr 42 false (bNil)
def zp7 (x : ttTannotationreplace0) (y : ttTannotationreplace1) : Nat := (x.1.1.1.length + x.2.2.2.1.length + Int.toNat x.2.2.2.2.1 + x.2.2.2.2.2.1.length + Int.toNat x.2.2.2.2.2.2.1 + Int.toNat x.2.2.2.2.2.2.2.1 + x.2.2.2.2.2.2.2.2.1.length + Int.toNat x.2.2.2.2.2.2.2.2.2.1 + Int.toNat x.2.2.2.2.2.2.2.2.2.2.1 + Int.toNat x.2.2.2.2.2.2.2.2.2.2.2.1 + Int.toNat x.2.2.2.2.2.2.2.2.2.2.2.2.1 + y.1.length + y.2.1.length + 1)
def zqR (x : ttTannotationreplace3) (y : ttTannotationreplace1) : Nat := (x.1.1.1.length + x.2.2.2.1.length + Int.toNat x.2.2.2.2.1 + Int.toNat x.2.2.2.2.2.1 + x.2.2.2.2.2.2.1.length + Int.toNat x.2.2.2.2.2.2.2.1 + Int.toNat x.2.2.2.2.2.2.2.2.1 + y.1.length + y.2.1.length + 1)
def zqU (x : ttTannotationreplace5) (y : ttTannotationreplace6) : Nat := (x.1.1.1.length + x.2.2.1.length + Int.toNat x.2.2.2.1 + Int.toNat x.2.2.2.2.1 + y.1.length + 1)
def zjA (zi : Atom → List Binding → Bool × (List Term × Int)) : Cx ty := mkCx base0 68 [(13, zmA), (16, zmD), (25, zoe), (93, zgn), (140, (zi3 zi))] [] [(3, [(1, .keep), (6, .own 42), (16, .keep), (17, .keep), (18, .keep)]), (7, [(1, .keep), (6, .keep), (9, .keep), (16, .keep), (17, .keep), (18, .keep), (26, .keep), (27, .keep), (28, .keep)]), (11, [(1, .keep), (6, .keep), (9, .keep), (12, .sl 42), (13, .keep), (16, .keep), (17, .keep), (18, .keep), (26, .keep), (27, .keep), (28, .keep), (40, .keep), (41, .keep)])] [(3, 1, [(6, .keep)]), (3, 0, [(4, .keep), (5, .keep)]), (7, 3, [(1, .keep), (6, .keep), (9, .keep), (16, .keep), (17, .keep), (18, .keep)]), (7, 0, [(4, .keep), (5, .keep)]), (11, 5, [(1, .keep), (6, .keep), (9, .keep), (13, .keep), (16, .keep), (17, .keep), (18, .keep), (26, .keep), (27, .keep), (28, .keep)])] [(11, spW zry zqC (zmt zi) default zqj zp7), (7, spW zsa zsj (zmN zi) (.inl default) zrD zqR), (3, spW zsg zrY (zmS zi) (.inl default) zra zqU)] []
theorem zzs (zi : Atom → List Binding → Bool × (List Term × Int)) : zbr (zjA zi) (lp (body Tryz.f92) 2) := zZ (id := 11) (V := zry) (B := zqC) (W := zmt zi) (z := default) (tr := zqj) (m := zp7)
theorem zAt (zi : Atom → List Binding → Bool × (List Term × Int)) : zbr (zjA zi) (lp (body Tryz.f92) 1) := zZ (id := 7) (V := zsa) (B := zsj) (W := zmN zi) (z := .inl default) (tr := zrD) (m := zqR)
theorem zAi (zi : Atom → List Binding → Bool × (List Term × Int)) : zbr (zjA zi) (lp (body Tryz.f92) 0) := zZ (id := 3) (V := zsg) (B := zrY) (W := zmS zi) (z := .inl default) (tr := zra) (m := zqU)
def zsS (zi : Atom → List Binding → Bool × (List Term × Int)) (a : List Term) (to : List Binding) : Wy0 (List Term × Int) := .bn (zBo zi (to.length + a.length + (Int.ofNat a.length).toNat + Int.toNat 0 + 0 + 1) to a (Int.ofNat a.length) 0 []) fun r18 => .i (isL r18) (.k ([], getL r18)) (.k (getR r18, 0))
def zu6 (zi : Atom → List Binding → Bool × (List Term × Int)) (a : List Term) (to : List Binding) : Bool × (List Term × Int) := (zsS zi a to).fin default
theorem zyk (zi : Atom → List Binding → Bool × (List Term × Int)) (zyl : Sound Tryz.prog base0 140 (zi3 zi)) : Sound Tryz.prog base0 92 (zi0 (zu6 zi)) :=
 zF (cx' := (zjA zi)) zR zic zL (zG ⟨zpj, zpc, ztd.nodr, zi6.nodr, zyl, trivial⟩) Tryz.call92 Tryz.func92 (c := body Tryz.f92) (by kernel_rfl) (zj (l := [lp (body Tryz.f92) 0, lp (body Tryz.f92) 1, lp (body Tryz.f92) 2]) (by kernel_rfl) ⟨zAi zi, zAt zi, zzs zi, trivial⟩) (sg := ⟨[.own 42, .pure], []⟩) (A := zva) (res := zsP) (W := fun x => zsS zi x.1 x.2.1.1.1) (z := default)
def zDv : Cx ty := mkCx base 23 [(29, zjN), (31, annotation_Valid_spec), (53, zd1), (62, zff), (68, zkJ)] [] [] [] [] []
def zv3 (a : List Term) : Wy0 (List Term × Int) := .bn (zbE a) fun r2 => .i (!r2) (.k ([], 1)) (.i (Int.ofNat a.length == 0) (.k (zj4.2, 0)) (.bn (zeb a) fun r1 => .i (r1) (.k ([], 0)) (.bn (zdy (zhC (Atom.mk 3 (RowID.mk 0 0) [a] 0 [] 0 (Value.mk 0 0 (ByteArray.mk #[])))).2) fun r0 => .k (r0.1, r0.2))))
def zsu (a : List Term) : Bool × (List Term × Int) := (zv3 a).fin default
def zt3 (r : List Term × Int) : ARes ty := ⟨[.own 42 r.1, .pure (.lit (.int .i64 r.2))], []⟩
def zvX : AL base (List Term × Unit) := zf (zg (vSl 42)) aNil
def zth : Ab.Spec ty := zr zvX fun x => ((zsu x.1).1, zt3 (zsu x.1).2)
theorem zA9 : Sound Tryz.prog base 22 zth :=
 zF (cx' := zDv) zR zB zL (zG ⟨zlC, zcm, zep, zhk, zn0, trivial⟩) Tryz.call22 Tryz.func22 (c := body Tryz.f22) (by kernel_rfl) (zj (l := []) (by kernel_rfl) trivial) (sg := ⟨[.own 42, .pure], []⟩) (A := zvX) (res := zt3) (W := fun x => zv3 x.1) (z := default)
def zeW (x : List Weighted) (a b : Int) : Bool × List Weighted := zI2 zbm x a b
def slices_insertionSortCmpFunc_api_Weighted_spec : Ab.Spec ty := zr (cx := base) (zf (aOwn 52) (zf (zg (vInt .i64)) (zf (zg (vInt .i64)) (zf (zg (vFn 85 vNil)) aNil)))) fun x => ((zeW x.1 x.2.1 x.2.2.1).1, ⟨[], [some ⟨52, (zeW x.1 x.2.1 x.2.2.1).2⟩]⟩)
theorem znp (c : Unit) (x y : Weighted) (h : (zbm x y).1 = true) : annotation_compareItems_spec ((AV.agg (base.enc 52 x) :: AV.agg (base.enc 52 y) :: (vNil : VL base Unit).enc c).map Arg.pure) = some (true, ⟨[.pure (.lit (.int .i64 (zbm x y).2))], []⟩) := by
 rw [← h]; kernel_rfl
theorem zm2 : Sound Tryz.prog base 164 slices_insertionSortCmpFunc_api_Weighted_spec := by
 letI : DecidableEq (ty 52) := inferInstanceAs (DecidableEq Weighted)
 exact zNy (T := 52) zB rfl Go.Proofs.Tryz.insW Tryz.isAgg52 (by unfold szOf; exact Tryz.sizeOf52) Tryz.call164 zgl vNil (fun c => zbm) znp
open Go.Proofs Go.RowKit
def zb4 (x : List Weighted) (m : Int) : Bool × List Weighted := (decide (SortOK zbm x) && (decide (m = x.length) && decide (m < 20)), zmB zbm x)
def zjT : Ab.Spec ty := zr (cx := base) (zf (aOwn 52) (zf (zg (vInt .i64)) (zf (zg (vFn 85 vNil)) aNil))) fun x => ((zb4 x.1 x.2.1).1, ⟨[], [some ⟨52, (zb4 x.1 x.2.1).2⟩]⟩)
set_option maxHeartbeats 1000000 in
theorem zpn : Sound Tryz.prog base 139 zjT where
 enters := Tryz.call139
 calls := fun avs r hsp w F vs hF ha hsep => by
  unfold zjT zr at hsp
  split at hsp
  ·rename_i x hx
   simp only [Option.some.injEq, Prod.mk.injEq] at hsp
   obtain ⟨hpre, rfl⟩ := hsp
   have hk := (zf (aOwn 52) (zf (zg (vInt .i64)) (zf (zg (vFn 85 vNil)) aNil)) : AL base _).kind vs avs x hx
   have ha' := (zf (aOwn 52) (zf (zg (vInt .i64)) (zf (zg (vFn 85 vNil)) aNil)) : AL base _).ok Tryz.prog zB F w vs avs x hx ha
   rw [hk] at hsep ⊢
   clear hk hx ha
   obtain ⟨l0, m, c, u0⟩ := x
   obtain ⟨l, rfl⟩ : ∃ l : List Weighted, l = l0 := ⟨l0, rfl⟩
   obtain ⟨v, vs', rfl, hv, hv'⟩ := ha'.inv
   obtain ⟨mv, vs1, rfl, hm, hv1⟩ := hv'.inv
   obtain ⟨fv, vs'', rfl, hfv, h0⟩ := hv1.inv
   obtain rfl := h0.nil_left.1
   have hm : Rep base F w mv (.lit (.int .i64 m)) := hm
   obtain rfl : mv = .int .i64 m := by cases hm; rfl
   have hsl : ∃ p cap, v = .slice p l.length cap := by
    obtain ⟨⟨xs, hown, _⟩, _⟩ := (show zcH base F w v 52 l ∧ ∀ b, zV v = some b → ¬ F b from hv)
    rcases hown.2 with ⟨h1, h2⟩ | ⟨g0, cap, cur, h1, _⟩
    ·exact ⟨none, 0, by rw [h1, show l.length = 0 from h2]⟩
    ·exact ⟨_, cap, h1⟩
   have hpre : (decide (SortOK (α := Weighted) zbm l) && (decide (m = l.length) && decide (m < 20))) = true := hpre
   simp only [Bool.and_eq_true, decide_eq_true_eq] at hpre
   obtain ⟨hok, rfl, h20⟩ := hpre
   have hpp : (zeW l 0 (l.length : Int)).1 = true := by
    show (decide (SortOK (α := Weighted) zbm l) && (decide ((0 : Int) = 0) && decide ((l.length : Int) = l.length))) = true
    simp only [Bool.and_eq_true, decide_eq_true_eq]
    exact ⟨hok, trivial, trivial⟩
   have hp := (zm2).calls [.own 52 l, .pure (.lit (.int .i64 0)), .pure (.lit (.int .i64 (l.length : Int))), .pure (.fn 85 [])] ⟨[], [some ⟨52, (zb4 l (l.length : Int)).2⟩]⟩
    (by rw [← hpp]; kernel_rfl) w F [v, .int .i64 0, .int .i64 (l.length : Int), fv] hF (.cons hv (.cons (Rep.lit _) (.cons (Rep.lit _) (.cons hfv .nil)))) hsep
   replace hp : Calls Tryz.prog 164 #[v, .int .i64 0, .int .i64 (l.length : Int), fv] w fun e w' => ∃ u, e = .returned u ∧ Post base F w [v] ⟨[], [some ⟨52, (zb4 l (l.length : Int)).2⟩]⟩ u w' := hp
   show Calls Tryz.prog 139 #[v, .int .i64 (l.length : Int), fv] w fun e w' => ∃ u, e = .returned u ∧ Post base F w [v] ⟨[], [some ⟨52, (zb4 l (l.length : Int)).2⟩]⟩ u w'
   generalize (zb4 l (l.length : Int)).2 = res at hp ⊢
   generalize hn : l.length = m at *
   clear hpp hv hfv hsep hok hF hm
   obtain ⟨p, cap, rfl⟩ := hsl
   clear hn
   go_enter Tryz.func139, Tryz.ntmps139
   go_wp2
   refine wp_loop_rounds 1 ?_
   rw [rounds_succ]
   go_wp2_with (go_at_call 164; refine hp.mono ?_; rintro e w' ⟨u, rfl, hpost⟩; obtain rfl := hpost.unit)
   refine wp_loop_rounds 1 ?_
   rw [rounds_succ]
   go_wp2
   all_goals first | (exfalso; omega) | (go_end0; exact ⟨_, rfl, hpost⟩)
  ·cases hsp
end Go.Proofs.YtnolcogncjijpaaGreatDoor
namespace Go.Proofs.YtnolcogncjijpaaGreatDoor
open Go Go.Ab
open Go.Proofs Go.RowKit
def zbh (x : List Weighted) : Bool × List Weighted := (decide (SortOK zbm x) && decide (x.length < 20), zmB zbm x)
def zc4 : Ab.Spec ty := zr (cx := base) (zf (aOwn 52) (zf (zg (vFn 85 vNil)) aNil)) fun x => ((zbh x.1).1, ⟨[], [some ⟨52, (zbh x.1).2⟩]⟩)
set_option maxHeartbeats 1000000 in
theorem zky : Sound Tryz.prog base 84 zc4 where
 enters := Tryz.call84
 calls := fun avs r hsp w F vs hF ha hsep => by
  unfold zc4 zr at hsp
  split at hsp
  ·rename_i x hx
   simp only [Option.some.injEq, Prod.mk.injEq] at hsp
   obtain ⟨hpre, rfl⟩ := hsp
   have hk := (zf (aOwn 52) (zf (zg (vFn 85 vNil)) aNil) : AL base _).kind vs avs x hx
   have ha' := (zf (aOwn 52) (zf (zg (vFn 85 vNil)) aNil) : AL base _).ok Tryz.prog zB F w vs avs x hx ha
   rw [hk] at hsep ⊢
   clear hk hx ha
   obtain ⟨l0, c, u0⟩ := x
   obtain ⟨l, rfl⟩ : ∃ l : List Weighted, l = l0 := ⟨l0, rfl⟩
   obtain ⟨v, vs', rfl, hv, hv'⟩ := ha'.inv
   obtain ⟨fv, vs'', rfl, hfv, h0⟩ := hv'.inv
   obtain rfl := h0.nil_left.1
   have hsl : ∃ p cap, v = .slice p l.length cap := by
    obtain ⟨⟨xs, hown, _⟩, _⟩ := (show zcH base F w v 52 l ∧ ∀ b, zV v = some b → ¬ F b from hv)
    rcases hown.2 with ⟨h1, h2⟩ | ⟨g0, cap, cur, h1, _⟩
    ·exact ⟨none, 0, by rw [h1, show l.length = 0 from h2]⟩
    ·exact ⟨_, cap, h1⟩
   have hpre : (decide (SortOK (α := Weighted) zbm l) && decide (l.length < 20)) = true := hpre
   simp only [Bool.and_eq_true, decide_eq_true_eq] at hpre
   obtain ⟨hok, h20⟩ := hpre
   have hpp : (zb4 l (l.length : Int)).1 = true := by
    show (decide (SortOK (α := Weighted) zbm l) && (decide ((l.length : Int) = l.length) && decide ((l.length : Int) < 20))) = true
    simp only [Bool.and_eq_true, decide_eq_true_eq]
    exact ⟨hok, trivial, by omega⟩
   have hp := (zpn).calls [.own 52 l, .pure (.lit (.int .i64 (l.length : Int))), .pure (.fn 85 [])] ⟨[], [some ⟨52, (zbh l).2⟩]⟩
    (by rw [← hpp]; kernel_rfl) w F [v, .int .i64 (l.length : Int), fv] hF (.cons hv (.cons (Rep.lit _) (.cons hfv .nil))) hsep
   replace hp : Calls Tryz.prog 139 #[v, .int .i64 (l.length : Int), fv] w fun e w' => ∃ u, e = .returned u ∧ Post base F w [v] ⟨[], [some ⟨52, (zbh l).2⟩]⟩ u w' := hp
   show Calls Tryz.prog 84 #[v, fv] w fun e w' => ∃ u, e = .returned u ∧ Post base F w [v] ⟨[], [some ⟨52, (zbh l).2⟩]⟩ u w'
   generalize (zbh l).2 = res at hp ⊢
   generalize hn : l.length = m at *
   clear hpp hv hfv hsep hok hF
   obtain ⟨p, cap, rfl⟩ := hsl
   clear hn
   go_enter Tryz.func84, Tryz.ntmps84
   go_wp2_with (go_at_call 139; refine hp.mono ?_; rintro e w' ⟨u, rfl, hpost⟩; obtain rfl := hpost.unit)
   go_end0
   exact ⟨_, rfl, hpost⟩
  ·cases hsp
end Go.Proofs.YtnolcogncjijpaaGreatDoor
namespace Go.Proofs.YtnolcogncjijpaaGreatDoor
open Go Go.Ab
abbrev ttTannotationItems0 := Unit × List Weighted × Int × Int × Unit
abbrev ttTannotationItems1 := List Weighted × Unit
def zEA (t6 : List Weighted) (t7 : Int) (t8 : Int) (out_ : List Weighted) : Wy ttTannotationItems0 ttTannotationItems1 (List Weighted) := .i (decide (t8 < t7)) (.i (decide (0 ≤ t8) && decide (t8 < Int.ofNat t6.length)) (.i (decide (Int.ofNat (t6.getD t8.toNat default).Ann.length > 0)) (.bn (zfq (t6.getD t8.toNat default).Ann) fun r0 => .i (decide ((out_.length + [WeightedOf.mk (t6.getD t8.toNat default).Value r0].length) * 56 ≤ zP)) (.h ((), t6, t7, (IntKind.i64.wrap (t8 + 1)), ()) ((out_ ++ [WeightedOf.mk (t6.getD t8.toNat default).Value r0]), ())) .d) (.h ((), t6, t7, (IntKind.i64.wrap (t8 + 1)), ()) (out_, ()))) .d) (.k out_)
def zp4 (x : ttTannotationItems0) (y : ttTannotationItems1) : Wy ttTannotationItems0 ttTannotationItems1 (List Weighted) := zEA x.2.1 x.2.2.1 x.2.2.2.1 y.1
def zEK (n : Nat) (t6 : List Weighted) (t7 : Int) (t8 : Int) (out_ : List Weighted) : Bool × List Weighted := zN (zp4) default n ((), t6, t7, t8, ()) (out_, ())
def zuT (r : List Weighted) : LTree ty := .done (.exit 0) [.own 116] [.arr 52 r false]
def zwh : LL ty ttTannotationItems0 := za (lOwn 116) (za (lSl 52) (za (lInt .i64) (za (lInt .i64) zT)))
def zvY : BL ty ttTannotationItems1 := bArr 52 false (bNil)
def zu8 (x : ttTannotationItems0) (y : ttTannotationItems1) : Nat := (x.2.1.length + Int.toNat x.2.2.1 + Int.toNat x.2.2.2.1 + y.1.length + 1)
def zwd : Cx ty := mkCx base 29 [(61, annotation_copied_spec), (84, zc4), (85, annotation_compareItems_spec)] [(84, [true, false])] [(3, [(3, .own 52), (6, .keep), (7, .keep), (8, .keep)])] [(3, 1, [(3, .keep)])] [(3, spW zwh zvY (zp4) default zuT zu8)] []
theorem zDJ : zbr zwd (lp (body Tryz.f36) 0) := zZ (id := 3) (V := zwh) (B := zvY) (W := zp4) (z := default) (tr := zuT) (m := zu8)
def zxY (l : List Weighted) : Wy0 (List Weighted) := .bn (zEK (l.length + (Int.ofNat l.length).toNat + Int.toNat 0 + 0 + 1) l (Int.ofNat l.length) 0 []) fun r3 => .bn (zbh r3) fun r2 => .k r2
def ztM (l : List Weighted) : Bool × List Weighted := (zxY l).fin default
def zvh (r : List Weighted) : ARes ty := ⟨[.own 52 r], []⟩
def zxn : AL base ttTannotationItems1 := zf (zg (vSl 52)) aNil
def zt6 : Ab.Spec ty := zr zxn fun x => ((ztM x.1).1, zvh (ztM x.1).2)
theorem zCi : Sound Tryz.prog base 36 zt6 :=
 zF (cx' := zwd) zR zB zL (zG ⟨zhl, zky, zgl, trivial⟩) Tryz.call36 Tryz.func36 (c := body Tryz.f36) (by kernel_rfl) (zj (l := [lp (body Tryz.f36) 0]) (by kernel_rfl) ⟨zDJ, trivial⟩) (sg := ⟨[.own 52], []⟩) (A := zxn) (res := zvh) (W := fun x => zxY x.1) (z := default)
def zCM : Cx ty := mkCx base 7 [(31, annotation_Valid_spec)] [] [] [] [] []
def zvF (w : Weighted) : Wy0 (Bool) := .bn (zbE w.Ann) fun r0 => .k (!r0)
def zqE (w : Weighted) : Bool × Bool := (zvF w).fin default
def zs1 (r : Bool) : ARes ty := ⟨[.pure (.lit (.bool r))], []⟩
def zvj : AL base (Weighted × Unit) := zf (zg (vAgg 52)) aNil
def zjD : Ab.Spec ty := zr zvj fun x => ((zqE x.1).1, zs1 (zqE x.1).2)
theorem zmw : Sound Tryz.prog base 77 zjD :=
 zF (cx' := zCM) zR zB zL (zG ⟨zcm, trivial⟩) Tryz.call77 Tryz.func77 (c := body Tryz.f77) (by kernel_rfl) (zj (l := []) (by kernel_rfl) trivial) (sg := ⟨[.pure], []⟩) (A := zvj) (res := zs1) (W := fun x => zvF x.1) (z := default)
def zEF : Cx ty := mkCx base 28 [] [] [] [] [] []
def zxy (op : Int) (sign : Int) : Wy0 (Bool) := .i (op == 5) (.k (sign == 0)) (.i (op == 6) (.k (sign != 0)) (.i (op == 7) (.k (decide (sign < 0))) (.i (op == 8) (.k (decide (sign ≤ 0))) (.i (op == 9) (.k (decide (sign > 0))) (.k (decide (sign ≥ 0)))))))
def ztK (op : Int) (sign : Int) : Bool × Bool := (zxy op sign).fin default
def zvv (r : Bool) : ARes ty := ⟨[.pure (.lit (.bool r))], []⟩
def zxR : AL base (Int × Int × Unit) := zf (zg (vInt .i64)) (zf (zg (vInt .i64)) aNil)
def zt8 : Ab.Spec ty := zr zxR fun x => ((ztK x.1 x.2.1).1, zvv (ztK x.1 x.2.1).2)
theorem zB8 : Sound Tryz.prog base 78 zt8 :=
 zF (cx' := zEF) zR zB zL (zG trivial) Tryz.call78 Tryz.func78 (c := body Tryz.f78) (by kernel_rfl) (zj (l := []) (by kernel_rfl) trivial) (sg := ⟨[.pure], []⟩) (A := zxR) (res := zvv) (W := fun x => zxy x.1 x.2.1) (z := default)
abbrev ttTslicesIndexFuncLapiWeightedapiWeightedt10 := List Weighted × Unit × Int × Int × Unit
def zl9 (s : List Weighted) (t7 : Int) (t8 : Int) : Wy ttTslicesIndexFuncLapiWeightedapiWeightedt10 (Unit) (Int ⊕ Unit) := .i (decide (t8 < t7)) (.i (decide (0 ≤ t8) && decide (t8 < Int.ofNat s.length)) (.bn (zqE (s.getD t8.toNat default)) fun r0 => .i (r0) (.k (.inl t8)) (.h (s, (), t7, (IntKind.i64.wrap (t8 + 1)), ()) ())) .d) (.k (.inr ()))
def zdD (x : ttTslicesIndexFuncLapiWeightedapiWeightedt10) (y : Unit) : Wy ttTslicesIndexFuncLapiWeightedapiWeightedt10 (Unit) (Int ⊕ Unit) := zl9 x.1 x.2.2.1 x.2.2.2.1
def zl5 (n : Nat) (s : List Weighted) (t7 : Int) (t8 : Int) : Bool × (Int ⊕ Unit) := zN (zdD) (.inl default) n (s, (), t7, t8, ()) ()
def zfX (r : Int ⊕ Unit) : LTree ty := .ite (isL r) (.done .ret [.lit (.int .i64 (getL r))] []) (.done (.exit 0) [] [])
def zf6 : LL ty ttTslicesIndexFuncLapiWeightedapiWeightedt10 := za (lSl 52) (za (lFn 77 (zT)) (za (lInt .i64) (za (lInt .i64) zT)))
def zf7 : BL ty (Unit) := bNil
def zfD (x : ttTslicesIndexFuncLapiWeightedapiWeightedt10) (y : Unit) : Nat := (x.1.length + Int.toNat x.2.2.1 + Int.toNat x.2.2.2.1 + 1)
def zgg : Cx ty := mkCx base 19 [(77, zjD)] [] [(2, [(0, .keep), (1, .keep), (7, .keep), (8, .keep)])] [(2, 1, []), (2, 0, [(4, .keep)])] [(2, spW zf6 zf7 (zdD) (.inl default) zfX zfD)] []
theorem zlH : zbr zgg (lp (body Tryz.f135) 0) := zZ (id := 2) (V := zf6) (B := zf7) (W := zdD) (z := .inl default) (tr := zfX) (m := zfD)
def zgs (s : List Weighted) : Wy0 (Int) := .bn (zl5 (s.length + (Int.ofNat s.length).toNat + Int.toNat 0 + 1) s (Int.ofNat s.length) 0) fun r2 => .i (isL r2) (.k (getL r2)) (.k (-1 : Int))
def zd2 (s : List Weighted) : Bool × Int := (zgs s).fin default
def zfJ (r : Int) : ARes ty := ⟨[.pure (.lit (.int .i64 r))], []⟩
def zgC : AL base (List Weighted × Unit × Unit) := zf (zg (vSl 52)) (zf (zg (vFn 77 vNil)) aNil)
def zfr : Ab.Spec ty := zr zgC fun x => ((zd2 x.1).1, zfJ (zd2 x.1).2)
theorem zk8 : Sound Tryz.prog base 135 zfr :=
 zF (cx' := zgg) zR zB zL (zG ⟨zmw, trivial⟩) Tryz.call135 Tryz.func135 (c := body Tryz.f135) (by kernel_rfl) (zj (l := [lp (body Tryz.f135) 0]) (by kernel_rfl) ⟨zlH, trivial⟩) (sg := ⟨[.pure], []⟩) (A := zgC) (res := zfJ) (W := fun x => zgs x.1) (z := default)
def zk7 : Cx ty := mkCx base 9 [(77, zjD), (135, zfr)] [] [] [] [] []
def zfA (s : List Weighted) : Wy0 (Bool) := .bn (zd2 s) fun r0 => .k (decide (r0 ≥ 0))
def zdB (s : List Weighted) : Bool × Bool := (zfA s).fin default
def ze0 (r : Bool) : ARes ty := ⟨[.pure (.lit (.bool r))], []⟩
def zfp : AL base (List Weighted × Unit × Unit) := zf (zg (vSl 52)) (zf (zg (vFn 77 vNil)) aNil)
def zeL : Ab.Spec ty := zr zfp fun x => ((zdB x.1).1, ze0 (zdB x.1).2)
theorem zkd : Sound Tryz.prog base 76 zeL :=
 zF (cx' := zk7) zR zB zL (zG ⟨zmw, zk8, trivial⟩) Tryz.call76 Tryz.func76 (c := body Tryz.f76) (by kernel_rfl) (zj (l := []) (by kernel_rfl) trivial) (sg := ⟨[.pure], []⟩) (A := zfp) (res := ze0) (W := fun x => zfA x.1) (z := default)
def zE2 : Cx ty := mkCx base 45 [(29, zjN), (36, zt6), (53, zd1), (62, zff), (75, zm0), (76, zeL), (77, zjD), (78, zt8), (79, zkg)] [] [] [] [] []
def zzd (fn : Int) (items : List Weighted) (op : Int) (bound : Value) : Wy0 (List Term × Int) := .bn (zif fn items op bound) fun r5 => .i (!r5) (.k ([], 1)) (.bn (zdB items) fun r4 => .i (r4) (.k ([], 1)) (.bn (ztM items) fun r3 => .i (decide (Int.ofNat r3.length > 0)) (.bn (zdy (zhC (Atom.mk 4 (RowID.mk 0 0) [] fn r3 op bound)).2) fun r0 => .k (r0.1, r0.2)) (.i (fn == 0) (.bn (zhB 0 bound.Int) fun r2 => .bn (ztK op r2) fun r1 => .i (r1) (.k (zj4.2, 0)) (.k ([], 0))) (.k ([], 0)))))
def zvq (fn : Int) (items : List Weighted) (op : Int) (bound : Value) : Bool × (List Term × Int) := (zzd fn items op bound).fin default
def zwo (r : List Term × Int) : ARes ty := ⟨[.own 42 r.1, .pure (.lit (.int .i64 r.2))], []⟩
def zze : AL base (Int × List Weighted × Int × Value × Unit) := zf (zg (vInt .i64)) (zf (zg (vSl 52)) (zf (zg (vInt .i64)) (zf (zg (vAgg 46)) aNil)))
def zvG : Ab.Spec ty := zr zze fun x => ((zvq x.1 x.2.1 x.2.2.1 x.2.2.2.1).1, zwo (zvq x.1 x.2.1 x.2.2.1 x.2.2.2.1).2)
theorem zC9 : Sound Tryz.prog base 33 zvG :=
 zF (cx' := zE2) zR zB zL (zG ⟨zlC, zCi, zep, zhk, zrh, zkd, zmw, zB8, zmQ, trivial⟩) Tryz.call33 Tryz.func33 (c := body Tryz.f33) (by kernel_rfl) (zj (l := []) (by kernel_rfl) trivial) (sg := ⟨[.own 42, .pure], []⟩) (A := zze) (res := zwo) (W := fun x => zzd x.1 x.2.1 x.2.2.1 x.2.2.2.1) (z := default)
abbrev ttTannotationreplaceAtom0 := ((List Binding × Unit) × Unit) × Unit × Unit × List (List Term) × Int × Int × Unit
abbrev ttTannotationreplaceAtom1 := Atom × List (List Term) × Unit
abbrev ttTannotationreplaceAtom2 := Int ⊕ (List Binding × Atom × List (List Term))
abbrev ttTannotationreplaceAtom3 := ((List Binding × Unit) × Unit) × Unit × Unit × List Weighted × Int × Int × Unit
abbrev ttTannotationreplaceAtom4 := Atom × List Weighted × Unit
abbrev ttTannotationreplaceAtom5 := Int ⊕ (Atom × List Weighted)
def zx2 (zD : List Term → List Binding → Bool × (List Term × Int)) (to : List Binding) (t24 : List (List Term)) (t25 : Int) (t26 : Int) (x_ : Atom) (args : List (List Term)) : Wy ttTannotationreplaceAtom0 ttTannotationreplaceAtom1 ttTannotationreplaceAtom2 := .i (decide (t26 < t25)) (.i (decide (0 ≤ t26) && decide (t26 < Int.ofNat t24.length)) (.bn (zD (t24.getD t26.toNat default) to) fun r2 => .i (r2.2 != 0) (.k (.inl (r2.2))) (.i (decide ((args.length + [r2.1].length) * 24 ≤ zP)) (.h (((to, ()), ()), (), (), t24, t25, (IntKind.i64.wrap (t26 + 1)), ()) (x_, (args ++ [r2.1]), ())) .d)) .d) (.k (.inr (to, x_, args)))
def zkD (zD : List Term → List Binding → Bool × (List Term × Int)) (x : ttTannotationreplaceAtom0) (y : ttTannotationreplaceAtom1) : Wy ttTannotationreplaceAtom0 ttTannotationreplaceAtom1 ttTannotationreplaceAtom2 := zx2 zD x.1.1.1 x.2.2.2.1 x.2.2.2.2.1 x.2.2.2.2.2.1 y.1 y.2.1
def zx1 (zD : List Term → List Binding → Bool × (List Term × Int)) (n : Nat) (to : List Binding) (t24 : List (List Term)) (t25 : Int) (t26 : Int) (x_ : Atom) (args : List (List Term)) : Bool × ttTannotationreplaceAtom2 := zN (zkD zD) (.inl default) n (((to, ()), ()), (), (), t24, t25, t26, ()) (x_, args, ())
def zop (r : ttTannotationreplaceAtom2) : LTree ty := .ite (isL r) (.done .ret [.lit (.slice none 0 0), .lit (.int .i64 (getL r))] []) (.done (.exit 0) [.fn 93 ([.bptr ([.sl 69 (getR r).1]) 0]), .ptr 432 0, .own 433] [.box (base.enc 48 (getR r).2.1) false, .arr 23 (getR r).2.2 false])
def zoZ : LL ty ttTannotationreplaceAtom0 := za (lFn 93 (za (zxp (za (lSl 69) zT) 0) zT)) (za (zqn 432 0) (za (lOwn 433) (za (lSl 23) (za (lInt .i64) (za (lInt .i64) zT)))))
def zoL : BL ty ttTannotationreplaceAtom1 := bBox (ztu (fun x => (⟨x.1, ⟨x.2.1, x.2.2.1⟩, x.2.2.2.1, x.2.2.2.2.1, x.2.2.2.2.2.1, x.2.2.2.2.2.2.1, ⟨x.2.2.2.2.2.2.2.1, x.2.2.2.2.2.2.2.2.1, x.2.2.2.2.2.2.2.2.2.1⟩⟩ : Atom)) (fun x => (x.Kind, x.Row.Table, x.Row.Seq, x.Args, x.Func, x.Items, x.Op, x.Bound.Kind, x.Bound.Int, x.Bound.Text, ())) (fun _ => rfl) (za (lInt .i64) (za (lInt .i64) (za (lInt .i64) (za (lSl 23) (za (lInt .i64) (za (lSl 52) (za (lInt .i64) (za (lInt .i64) (za (lInt .i64) (za lStr zT))))))))))) false (bArr 23 false (bNil))
def zw2 (zD : List Term → List Binding → Bool × (List Term × Int)) (to : List Binding) (t74 : List Weighted) (t75 : Int) (t76 : Int) (x_ : Atom) (items : List Weighted) : Wy ttTannotationreplaceAtom3 ttTannotationreplaceAtom4 ttTannotationreplaceAtom5 := .i (decide (t76 < t75)) (.i (decide (0 ≤ t76) && decide (t76 < Int.ofNat t74.length)) (.bn (zD (t74.getD t76.toNat default).Ann to) fun r4 => .i (r4.2 != 0) (.k (.inl (r4.2))) (.i (decide ((items.length + [WeightedOf.mk (t74.getD t76.toNat default).Value r4.1].length) * 56 ≤ zP)) (.h (((to, ()), ()), (), (), t74, t75, (IntKind.i64.wrap (t76 + 1)), ()) (x_, (items ++ [WeightedOf.mk (t74.getD t76.toNat default).Value r4.1]), ())) .d)) .d) (.k (.inr (x_, items)))
def zjY (zD : List Term → List Binding → Bool × (List Term × Int)) (x : ttTannotationreplaceAtom3) (y : ttTannotationreplaceAtom4) : Wy ttTannotationreplaceAtom3 ttTannotationreplaceAtom4 ttTannotationreplaceAtom5 := zw2 zD x.1.1.1 x.2.2.2.1 x.2.2.2.2.1 x.2.2.2.2.2.1 y.1 y.2.1
def zwM (zD : List Term → List Binding → Bool × (List Term × Int)) (n : Nat) (to : List Binding) (t74 : List Weighted) (t75 : Int) (t76 : Int) (x_ : Atom) (items : List Weighted) : Bool × ttTannotationreplaceAtom5 := zN (zjY zD) (.inl default) n (((to, ()), ()), (), (), t74, t75, t76, ()) (x_, items, ())
def znK (r : ttTannotationreplaceAtom5) : LTree ty := .ite (isL r) (.done .ret [.lit (.slice none 0 0), .lit (.int .i64 (getL r))] []) (.done (.exit 3) [.ptr 432 0, .own 433] [.box (base.enc 48 (getR r).1) false, .arr 52 (getR r).2 false])
def zn6 : LL ty ttTannotationreplaceAtom3 := za (lFn 93 (za (zxp (za (lSl 69) zT) 0) zT)) (za (zqn 432 0) (za (lOwn 433) (za (lSl 52) (za (lInt .i64) (za (lInt .i64) zT)))))
def zn9 : BL ty ttTannotationreplaceAtom4 := bBox (ztu (fun x => (⟨x.1, ⟨x.2.1, x.2.2.1⟩, x.2.2.2.1, x.2.2.2.2.1, x.2.2.2.2.2.1, x.2.2.2.2.2.2.1, ⟨x.2.2.2.2.2.2.2.1, x.2.2.2.2.2.2.2.2.1, x.2.2.2.2.2.2.2.2.2.1⟩⟩ : Atom)) (fun x => (x.Kind, x.Row.Table, x.Row.Seq, x.Args, x.Func, x.Items, x.Op, x.Bound.Kind, x.Bound.Int, x.Bound.Text, ())) (fun _ => rfl) (za (lInt .i64) (za (lInt .i64) (za (lInt .i64) (za (lSl 23) (za (lInt .i64) (za (lSl 52) (za (lInt .i64) (za (lInt .i64) (za (lInt .i64) (za lStr zT))))))))))) false (bArr 52 false (bNil))
def zor (x : ttTannotationreplaceAtom0) (y : ttTannotationreplaceAtom1) : Nat := (x.1.1.1.length + x.2.2.2.1.length + Int.toNat x.2.2.2.2.1 + Int.toNat x.2.2.2.2.2.1 + y.1.Args.length + y.1.Items.length + y.2.1.length + 1)
def znF (x : ttTannotationreplaceAtom3) (y : ttTannotationreplaceAtom4) : Nat := (x.1.1.1.length + x.2.2.2.1.length + Int.toNat x.2.2.2.2.1 + Int.toNat x.2.2.2.2.2.1 + y.1.Args.length + y.1.Items.length + y.2.1.length + 1)
def zkq (zD : List Term → List Binding → Bool × (List Term × Int)) : Cx ty := mkCx base0 108 [(18, zov), (20, zoc), (22, zth), (33, zvG), (92, (zi0 zD)), (93, zgn)] [] [(5, [(1, .keep), (2, .keep), (6, .own 23), (24, .keep), (25, .keep), (26, .keep)]), (21, [(1, .keep), (2, .keep), (11, .own 52), (74, .keep), (75, .keep), (76, .keep)])] [(5, 1, [(1, .keep), (2, .keep), (6, .keep)]), (5, 0, [(4, .keep), (5, .keep)]), (21, 4, [(2, .keep), (11, .keep)]), (21, 0, [(4, .keep), (5, .keep)])] [(5, spW zoZ zoL (zkD zD) (.inl default) zop zor), (21, spW zn6 zn9 (zjY zD) (.inl default) znK znF)] []
theorem zws (zD : List Term → List Binding → Bool × (List Term × Int)) : zbr (zkq zD) (lp (body Tryz.f140) 0) := zZ (id := 5) (V := zoZ) (B := zoL) (W := zkD zD) (z := .inl default) (tr := zop) (m := zor)
theorem zvU (zD : List Term → List Binding → Bool × (List Term × Int)) : zbr (zkq zD) (lp (body Tryz.f140) 1) := zZ (id := 21) (V := zn6) (B := zn9) (W := zjY zD) (z := .inl default) (tr := znK) (m := znF)
def zpv (zD : List Term → List Binding → Bool × (List Term × Int)) (x_ : Atom) (to : List Binding) : Wy0 (List Term × Int) := .i (x_.Kind == 0) (.bn (zmv x_.Row to) fun r6 => .k (r6, 0)) (.bn (zx1 zD (to.length + x_.Args.length + (Int.ofNat x_.Args.length).toNat + Int.toNat 0 + x_.Args.length + x_.Items.length + 0 + 1) to x_.Args (Int.ofNat x_.Args.length) 0 (Atom.mk x_.Kind x_.Row x_.Args x_.Func x_.Items x_.Op x_.Bound) []) fun r12 => .i (isL r12) (.k ([], getL r12)) (.i ((getR r12).2.1.Kind == 1) (.i (decide ((0 : Int) ≤ (0 : Int)) && decide (0 < Int.ofNat (getR r12).2.2.length)) (.i (decide ((0 : Int) ≤ (1 : Int)) && decide (1 < Int.ofNat (getR r12).2.2.length)) (.bn (ztx ((getR r12).2.2.getD (Int.toNat 0) default) ((getR r12).2.2.getD (Int.toNat 1) default)) fun r7 => .k (r7.1, r7.2)) .d) .d) (.i ((getR r12).2.1.Kind == 2) (.i (decide ((0 : Int) ≤ (0 : Int)) && decide (0 < Int.ofNat (getR r12).2.2.length)) (.bn (ztN ((getR r12).2.2.getD (Int.toNat 0) default)) fun r8 => .k (r8.1, r8.2)) .d) (.i ((getR r12).2.1.Kind == 3) (.i (decide ((0 : Int) ≤ (0 : Int)) && decide (0 < Int.ofNat (getR r12).2.2.length)) (.bn (zsu ((getR r12).2.2.getD (Int.toNat 0) default)) fun r9 => .k (r9.1, r9.2)) .d) (.bn (zwM zD ((getR r12).1.length + (getR r12).2.1.Items.length + (Int.ofNat (getR r12).2.1.Items.length).toNat + Int.toNat 0 + (getR r12).2.1.Args.length + (getR r12).2.1.Items.length + 0 + 1) (getR r12).1 (getR r12).2.1.Items (Int.ofNat (getR r12).2.1.Items.length) 0 (Atom.mk (getR r12).2.1.Kind (getR r12).2.1.Row (getR r12).2.1.Args (getR r12).2.1.Func (getR r12).2.1.Items (getR r12).2.1.Op (getR r12).2.1.Bound) []) fun r11 => .i (isL r11) (.k ([], getL r11)) (.bn (zvq (getR r11).1.Func (getR r11).2 (getR r11).1.Op (getR r11).1.Bound) fun r10 => .k (r10.1, r10.2)))))))
def zrm (zD : List Term → List Binding → Bool × (List Term × Int)) (x_ : Atom) (to : List Binding) : Bool × (List Term × Int) := (zpv zD x_ to).fin default
theorem zuO (zD : List Term → List Binding → Bool × (List Term × Int)) (zB4 : Sound Tryz.prog base0 92 (zi0 zD)) : Sound Tryz.prog base0 140 (zi3 (zrm zD)) :=
 zF (cx' := (zkq zD)) zR zic zL (zG ⟨zsX.nodr, zsZ.nodr, zA9.nodr, zC9.nodr, zB4, zi6.nodr, trivial⟩) Tryz.call140 Tryz.func140 (c := body Tryz.f140) (by kernel_rfl) (zj (l := [lp (body Tryz.f140) 0, lp (body Tryz.f140) 1]) (by kernel_rfl) ⟨zws zD, zvU zD, trivial⟩) (sg := ⟨[.own 42, .pure], []⟩) (A := zrv) (res := zpw) (W := fun x => zpv zD x.1 x.2.1.1.1) (z := default)
def zxc : Nat → (List Term → List Binding → Bool × (List Term × Int)) × (Atom → List Binding → Bool × (List Term × Int))
 | 0 => (fun _ _ => (false, default), fun _ _ => (false, default))
 | n + 1 => (zu6 ((zxc n).2), zrm ((zxc n).1))
def zuH (n : Nat) : List Term → List Binding → Bool × (List Term × Int) := (zxc n).1
def zAY (n : Nat) : Atom → List Binding → Bool × (List Term × Int) := (zxc n).2
theorem zEn : ∀ n, Sound Tryz.prog base0 92 (zi0 (zuH n)) ∧ Sound Tryz.prog base0 140 (zi3 (zAY n))
 | 0 => ⟨zbB Tryz.call92 (fun _ => rfl), zbB Tryz.call140 (fun _ => rfl)⟩
 | n + 1 => by
  have ih := zEn n
  exact ⟨zyk _ (ih.2), zuO _ (ih.1)⟩
def zye : List Term → List Binding → Bool × (List Term × Int) := zuH 1000
def annotation_replace_spec : Ab.Spec ty := zi0 zye
theorem zAj : Sound Tryz.prog base0 92 annotation_replace_spec := (zEn 1000).1
def zxB : Cx ty := mkCx base 7 [(31, annotation_Valid_spec)] [] [] [] [] []
def zpO (b : Binding) : Wy0 (Bool) := .bn (zbE b.To) fun r0 => .k (!r0)
def zmy (b : Binding) : Bool × Bool := (zpO b).fin default
def zox (r : Bool) : ARes ty := ⟨[.pure (.lit (.bool r))], []⟩
def zpq : AL base (Binding × Unit) := zf (zg (vAgg 69)) aNil
def zgp : Ab.Spec ty := zr zpq fun x => ((zmy x.1).1, zox (zmy x.1).2)
theorem ziT : Sound Tryz.prog base 91 zgp :=
 zF (cx' := zxB) zR zB zL (zG ⟨zcm, trivial⟩) Tryz.call91 Tryz.func91 (c := body Tryz.f91) (by kernel_rfl) (zj (l := []) (by kernel_rfl) trivial) (sg := ⟨[.pure], []⟩) (A := zpq) (res := zox) (W := fun x => zpO x.1) (z := default)
abbrev ttTslicesIndexFuncLapiBindingapiBindings10 := List Binding × Unit × Int × Int × Unit
def zmH (s : List Binding) (t7 : Int) (t8 : Int) : Wy ttTslicesIndexFuncLapiBindingapiBindings10 (Unit) (Int ⊕ Unit) := .i (decide (t8 < t7)) (.i (decide (0 ≤ t8) && decide (t8 < Int.ofNat s.length)) (.bn (zmy (s.getD t8.toNat default)) fun r0 => .i (r0) (.k (.inl t8)) (.h (s, (), t7, (IntKind.i64.wrap (t8 + 1)), ()) ())) .d) (.k (.inr ()))
def zdU (x : ttTslicesIndexFuncLapiBindingapiBindings10) (y : Unit) : Wy ttTslicesIndexFuncLapiBindingapiBindings10 (Unit) (Int ⊕ Unit) := zmH x.1 x.2.2.1 x.2.2.2.1
def zmF (n : Nat) (s : List Binding) (t7 : Int) (t8 : Int) : Bool × (Int ⊕ Unit) := zN (zdU) (.inl default) n (s, (), t7, t8, ()) ()
def zgI (r : Int ⊕ Unit) : LTree ty := .ite (isL r) (.done .ret [.lit (.int .i64 (getL r))] []) (.done (.exit 0) [] [])
def zg1 : LL ty ttTslicesIndexFuncLapiBindingapiBindings10 := za (lSl 69) (za (lFn 91 (zT)) (za (lInt .i64) (za (lInt .i64) zT)))
def zg2 : BL ty (Unit) := bNil
def zgJ (x : ttTslicesIndexFuncLapiBindingapiBindings10) (y : Unit) : Nat := (x.1.length + Int.toNat x.2.2.1 + Int.toNat x.2.2.2.1 + 1)
def zgT : Cx ty := mkCx base 19 [(91, zgp)] [] [(2, [(0, .keep), (1, .keep), (7, .keep), (8, .keep)])] [(2, 1, []), (2, 0, [(4, .keep)])] [(2, spW zg1 zg2 (zdU) (.inl default) zgI zgJ)] []
theorem zmm : zbr zgT (lp (body Tryz.f94) 0) := zZ (id := 2) (V := zg1) (B := zg2) (W := zdU) (z := .inl default) (tr := zgI) (m := zgJ)
def zhf (s : List Binding) : Wy0 (Int) := .bn (zmF (s.length + (Int.ofNat s.length).toNat + Int.toNat 0 + 1) s (Int.ofNat s.length) 0) fun r2 => .i (isL r2) (.k (getL r2)) (.k (-1 : Int))
def zd9 (s : List Binding) : Bool × Int := (zhf s).fin default
def zgG (r : Int) : ARes ty := ⟨[.pure (.lit (.int .i64 r))], []⟩
def zho : AL base (List Binding × Unit × Unit) := zf (zg (vSl 69)) (zf (zg (vFn 91 vNil)) aNil)
def zf8 : Ab.Spec ty := zr zho fun x => ((zd9 x.1).1, zgG (zd9 x.1).2)
theorem zlu : Sound Tryz.prog base 94 zf8 :=
 zF (cx' := zgT) zR zB zL (zG ⟨ziT, trivial⟩) Tryz.call94 Tryz.func94 (c := body Tryz.f94) (by kernel_rfl) (zj (l := [lp (body Tryz.f94) 0]) (by kernel_rfl) ⟨zmm, trivial⟩) (sg := ⟨[.pure], []⟩) (A := zho) (res := zgG) (W := fun x => zhf x.1) (z := default)
def zlG : Cx ty := mkCx base 9 [(91, zgp), (94, zf8)] [] [] [] [] []
def zf4 (s : List Binding) : Wy0 (Bool) := .bn (zd9 s) fun r0 => .k (decide (r0 ≥ 0))
def zdW (s : List Binding) : Bool × Bool := (zf4 s).fin default
def zfs (r : Bool) : ARes ty := ⟨[.pure (.lit (.bool r))], []⟩
def zgf : AL base (List Binding × Unit × Unit) := zf (zg (vSl 69)) (zf (zg (vFn 91 vNil)) aNil)
def ze7 : Ab.Spec ty := zr zgf fun x => ((zdW x.1).1, zfs (zdW x.1).2)
theorem zkK : Sound Tryz.prog base 90 ze7 :=
 zF (cx' := zlG) zR zB zL (zG ⟨ziT, zlu, trivial⟩) Tryz.call90 Tryz.func90 (c := body Tryz.f90) (by kernel_rfl) (zj (l := []) (by kernel_rfl) trivial) (sg := ⟨[.pure], []⟩) (A := zgf) (res := zfs) (W := fun x => zf4 x.1) (z := default)
def zAG : Cx ty := mkCx base0 18 [(31, annotation_Valid_spec), (90, ze7), (91, zgp), (92, annotation_replace_spec), (93, zgn)] [] [] [] [] []
def zr4 (a : List Term) (l : List Binding) : Wy0 (List Term × Int) := .bn (zbE a) fun r2 => .i (!r2) (.k ([], 1)) (.bn (zdW l) fun r1 => .i (r1) (.k ([], 1)) (.bn (zye a l) fun r0 => .k (r0.1, r0.2)))
def zt1 (a : List Term) (l : List Binding) : Bool × (List Term × Int) := (zr4 a l).fin default
def zp5 (r : List Term × Int) : ARes ty := ⟨[.own 42 r.1, .pure (.lit (.int .i64 r.2))], []⟩
def zr6 : AL base0 (List Term × List Binding × Unit) := zf (zg (vSl 42)) (zf (zg (vSl 69)) aNil)
def zpB : Ab.Spec ty := zr zr6 fun x => ((zt1 x.1 x.2.1).1, zp5 (zt1 x.1 x.2.1).2)
theorem zx4 : Sound Tryz.prog base0 41 zpB :=
 zF (cx' := zAG) zR zic zL (zG ⟨zcm.nodr, zkK.nodr, ziT.nodr, zAj, zi6.nodr, trivial⟩) Tryz.call41 Tryz.func41 (c := body Tryz.f41) (by kernel_rfl) (zj (l := []) (by kernel_rfl) trivial) (sg := ⟨[.own 42, .pure], []⟩) (A := zr6) (res := zp5) (W := fun x => zr4 x.1 x.2.1) (z := default)
def zIx : Cx ty := mkCx base0 84 [(13, zmA), (16, zmD), (18, zov), (20, zoc), (25, zoe), (27, zp3), (41, zpB), (51, zs3)] [] [] [] [] []
def zD8 : Wy0 (Bool) := .k true
def zGA : Bool × Bool := (zD8).fin default
def zBS (r : Bool) : ARes ty := ⟨[.pure (.lit (.bool r))], []⟩
def zD2 : AL base0 (Unit) := aNil
def zz9 : Ab.Spec ty := zr zD2 fun x => ((zGA ).1, zBS (zGA ).2)
theorem zGe : Sound Tryz.prog base0 11 zz9 :=
 zF (cx' := zIx) zR zic zL (zG ⟨zpj, zpc, zsX.nodr, zsZ.nodr, ztd.nodr, zu7.nodr, zx4, zBh, trivial⟩) Tryz.call11 Tryz.func11 (c := body Tryz.f11) (by kernel_rfl) (zj (l := []) (by kernel_rfl) trivial) (sg := ⟨[.pure], []⟩) (A := zD2) (res := zBS) (W := fun x => zD8 ) (z := default)
def zz6 (r : Int) : ARes ty := ⟨[.pure (.lit (.int .i64 r))], []⟩
def zCX : AL base (List Term × Int × Int × Unit) := zf (zg (vSl 42)) (zf (zg (vInt .i64)) (zf (zg (vInt .i64)) aNil))
def zoq (F : List Term → Int → Int → Bool × Int) : Ab.Spec ty := zr zCX fun x => ((F x.1 x.2.1 x.2.2.1).1, zz6 (F x.1 x.2.1 x.2.2.1).2)
abbrev ttTref05weight0 := List Term × Int × Int × Int × Int × Int × Unit × Int × Unit
abbrev ttTref05weight1 := List Term × Int × Int × Int × Int × Int × Atom
abbrev ttTref05weight2 := List Term × Int × Int × Int × Int × Int
abbrev ttTref05weight3 := List Term × Int × Int × Int × Int × Int × Unit
abbrev ttTref05weight4 := List Term × Int × Int × Int × Int
abbrev ttTref05weight5 := List Term × Int × Int × Int × Int × Unit
def zqZ (zt : List Term → Int → Int → Bool × Int) (a : List Term) (limit : Int) (deep : Int) (n_ : Int) (i : Int) (k : Int) (j : Int) (x_ : Atom) : Wy ttTref05weight0 (Atom × Unit) ttTref05weight1 := .i (decide (j < Int.ofNat x_.Args.length)) (.i (decide (n_ ≤ limit)) (.i (decide (0 ≤ j) && decide (j < Int.ofNat x_.Args.length)) (.bn (zt (x_.Args.getD j.toNat default) (IntKind.i64.wrap (limit - n_)) (IntKind.i64.wrap (deep - 1))) fun r0 => .h (a, limit, deep, (IntKind.i64.wrap (n_ + r0)), i, k, (), (IntKind.i64.wrap (j + 1)), ()) (x_, ())) .d) (.k (a, limit, deep, n_, i, k, x_))) (.k (a, limit, deep, n_, i, k, x_))
def zqT (zt : List Term → Int → Int → Bool × Int) (x : ttTref05weight0) (y : Atom × Unit) : Wy ttTref05weight0 (Atom × Unit) ttTref05weight1 := zqZ zt x.1 x.2.1 x.2.2.1 x.2.2.2.1 x.2.2.2.2.1 x.2.2.2.2.2.1 x.2.2.2.2.2.2.2.1 y.1
def zq1 (zt : List Term → Int → Int → Bool × Int) (n : Nat) (a : List Term) (limit : Int) (deep : Int) (n_ : Int) (i : Int) (k : Int) (j : Int) (x_ : Atom) : Bool × ttTref05weight1 := zN (zqT zt) default n (a, limit, deep, n_, i, k, (), j, ()) (x_, ())
def zwa (r : ttTref05weight1) : LTree ty := .done (.exit 4) [.sl 42 r.1, .lit (.int .i64 r.2.1), .lit (.int .i64 r.2.2.1), .lit (.int .i64 r.2.2.2.1), .lit (.int .i64 r.2.2.2.2.1), .lit (.int .i64 r.2.2.2.2.2.1), .ptr 544 0] [.box (base.enc 48 r.2.2.2.2.2.2) false]
def zyf : LL ty ttTref05weight0 := za (lSl 42) (za (lInt .i64) (za (lInt .i64) (za (lInt .i64) (za (lInt .i64) (za (lInt .i64) (za (zqn 544 0) (za (lInt .i64) zT)))))))
def zx6 : BL ty (Atom × Unit) := bBox (ztu (fun x => (⟨x.1, ⟨x.2.1, x.2.2.1⟩, x.2.2.2.1, x.2.2.2.2.1, x.2.2.2.2.2.1, x.2.2.2.2.2.2.1, ⟨x.2.2.2.2.2.2.2.1, x.2.2.2.2.2.2.2.2.1, x.2.2.2.2.2.2.2.2.2.1⟩⟩ : Atom)) (fun x => (x.Kind, x.Row.Table, x.Row.Seq, x.Args, x.Func, x.Items, x.Op, x.Bound.Kind, x.Bound.Int, x.Bound.Text, ())) (fun _ => rfl) (za (lInt .i64) (za (lInt .i64) (za (lInt .i64) (za (lSl 23) (za (lInt .i64) (za (lSl 52) (za (lInt .i64) (za (lInt .i64) (za (lInt .i64) (za lStr zT))))))))))) false (bNil)
def zrB (zt : List Term → Int → Int → Bool × Int) (a : List Term) (limit : Int) (deep : Int) (n_ : Int) (i : Int) (k : Int) (j : Int) (x_ : Atom) : Wy ttTref05weight0 (Atom × Unit) ttTref05weight2 := .i (decide (j < Int.ofNat x_.Items.length)) (.i (decide (n_ ≤ limit)) (.i (decide (0 ≤ j) && decide (j < Int.ofNat x_.Items.length)) (.i (decide (0 ≤ j) && decide (j < Int.ofNat x_.Items.length)) (.bn (zt (x_.Items.getD j.toNat default).Ann (IntKind.i64.wrap (limit - n_)) (IntKind.i64.wrap (deep - 1))) fun r2 => .h (a, limit, deep, (IntKind.i64.wrap (IntKind.i64.wrap (n_ + Int.ofNat (x_.Items.getD j.toNat default).Value.Text.size) + r2)), i, k, (), (IntKind.i64.wrap (j + 1)), ()) (x_, ())) .d) .d) (.k (a, limit, deep, n_, i, k))) (.k (a, limit, deep, n_, i, k))
def zq9 (zt : List Term → Int → Int → Bool × Int) (x : ttTref05weight0) (y : Atom × Unit) : Wy ttTref05weight0 (Atom × Unit) ttTref05weight2 := zrB zt x.1 x.2.1 x.2.2.1 x.2.2.2.1 x.2.2.2.2.1 x.2.2.2.2.2.1 x.2.2.2.2.2.2.2.1 y.1
def zq0 (zt : List Term → Int → Int → Bool × Int) (n : Nat) (a : List Term) (limit : Int) (deep : Int) (n_ : Int) (i : Int) (k : Int) (j : Int) (x_ : Atom) : Bool × ttTref05weight2 := zN (zq9 zt) default n (a, limit, deep, n_, i, k, (), j, ()) (x_, ())
def zwm (r : ttTref05weight2) : LTree ty := .done (.exit 6) [.sl 42 r.1, .lit (.int .i64 r.2.1), .lit (.int .i64 r.2.2.1), .lit (.int .i64 r.2.2.2.1), .lit (.int .i64 r.2.2.2.2.1), .lit (.int .i64 r.2.2.2.2.2)] []
def zxJ : LL ty ttTref05weight0 := za (lSl 42) (za (lInt .i64) (za (lInt .i64) (za (lInt .i64) (za (lInt .i64) (za (lInt .i64) (za (zqn 544 0) (za (lInt .i64) zT)))))))
def zxF : BL ty (Atom × Unit) := bBox (ztu (fun x => (⟨x.1, ⟨x.2.1, x.2.2.1⟩, x.2.2.2.1, x.2.2.2.2.1, x.2.2.2.2.2.1, x.2.2.2.2.2.2.1, ⟨x.2.2.2.2.2.2.2.1, x.2.2.2.2.2.2.2.2.1, x.2.2.2.2.2.2.2.2.2.1⟩⟩ : Atom)) (fun x => (x.Kind, x.Row.Table, x.Row.Seq, x.Args, x.Func, x.Items, x.Op, x.Bound.Kind, x.Bound.Int, x.Bound.Text, ())) (fun _ => rfl) (za (lInt .i64) (za (lInt .i64) (za (lInt .i64) (za (lSl 23) (za (lInt .i64) (za (lSl 52) (za (lInt .i64) (za (lInt .i64) (za (lInt .i64) (za lStr zT))))))))))) false (bNil)
def zsq (zt : List Term → Int → Int → Bool × Int) (a : List Term) (limit : Int) (deep : Int) (n_ : Int) (i : Int) (k : Int) : Wy ttTref05weight3 (Unit) ttTref05weight4 := .i (decide (0 ≤ i) && decide (i < Int.ofNat a.length)) (.i (decide (k < Int.ofNat (a.getD i.toNat default).Factors.length)) (.i (decide (n_ ≤ limit)) (.i (decide (0 ≤ i) && decide (i < Int.ofNat a.length)) (.i (decide (0 ≤ k) && decide (k < Int.ofNat (a.getD i.toNat default).Factors.length)) (.bn (zq1 zt ((a.length + limit.toNat + deep.toNat + (IntKind.i64.wrap (IntKind.i64.wrap (IntKind.i64.wrap (n_ + Int.ofNat ((a.getD i.toNat default).Factors.getD k.toNat default).Atom.Items.length) + Int.ofNat ((a.getD i.toNat default).Factors.getD k.toNat default).Atom.Args.length) + Int.ofNat ((a.getD i.toNat default).Factors.getD k.toNat default).Atom.Bound.Text.size)).toNat + i.toNat + k.toNat + Int.toNat 0 + 1) + (Atom.mk ((a.getD i.toNat default).Factors.getD k.toNat default).Atom.Kind ((a.getD i.toNat default).Factors.getD k.toNat default).Atom.Row ((a.getD i.toNat default).Factors.getD k.toNat default).Atom.Args ((a.getD i.toNat default).Factors.getD k.toNat default).Atom.Func ((a.getD i.toNat default).Factors.getD k.toNat default).Atom.Items ((a.getD i.toNat default).Factors.getD k.toNat default).Atom.Op ((a.getD i.toNat default).Factors.getD k.toNat default).Atom.Bound).Args.length + (Atom.mk ((a.getD i.toNat default).Factors.getD k.toNat default).Atom.Kind ((a.getD i.toNat default).Factors.getD k.toNat default).Atom.Row ((a.getD i.toNat default).Factors.getD k.toNat default).Atom.Args ((a.getD i.toNat default).Factors.getD k.toNat default).Atom.Func ((a.getD i.toNat default).Factors.getD k.toNat default).Atom.Items ((a.getD i.toNat default).Factors.getD k.toNat default).Atom.Op ((a.getD i.toNat default).Factors.getD k.toNat default).Atom.Bound).Items.length) a limit deep (IntKind.i64.wrap (IntKind.i64.wrap (IntKind.i64.wrap (n_ + Int.ofNat ((a.getD i.toNat default).Factors.getD k.toNat default).Atom.Items.length) + Int.ofNat ((a.getD i.toNat default).Factors.getD k.toNat default).Atom.Args.length) + Int.ofNat ((a.getD i.toNat default).Factors.getD k.toNat default).Atom.Bound.Text.size)) i k 0 (Atom.mk ((a.getD i.toNat default).Factors.getD k.toNat default).Atom.Kind ((a.getD i.toNat default).Factors.getD k.toNat default).Atom.Row ((a.getD i.toNat default).Factors.getD k.toNat default).Atom.Args ((a.getD i.toNat default).Factors.getD k.toNat default).Atom.Func ((a.getD i.toNat default).Factors.getD k.toNat default).Atom.Items ((a.getD i.toNat default).Factors.getD k.toNat default).Atom.Op ((a.getD i.toNat default).Factors.getD k.toNat default).Atom.Bound)) fun r5 => .bn (zq0 zt ((r5.1.length + r5.2.1.toNat + r5.2.2.1.toNat + r5.2.2.2.1.toNat + r5.2.2.2.2.1.toNat + r5.2.2.2.2.2.1.toNat + Int.toNat 0 + 1) + (Atom.mk r5.2.2.2.2.2.2.Kind r5.2.2.2.2.2.2.Row r5.2.2.2.2.2.2.Args r5.2.2.2.2.2.2.Func r5.2.2.2.2.2.2.Items r5.2.2.2.2.2.2.Op r5.2.2.2.2.2.2.Bound).Args.length + (Atom.mk r5.2.2.2.2.2.2.Kind r5.2.2.2.2.2.2.Row r5.2.2.2.2.2.2.Args r5.2.2.2.2.2.2.Func r5.2.2.2.2.2.2.Items r5.2.2.2.2.2.2.Op r5.2.2.2.2.2.2.Bound).Items.length) r5.1 r5.2.1 r5.2.2.1 r5.2.2.2.1 r5.2.2.2.2.1 r5.2.2.2.2.2.1 0 (Atom.mk r5.2.2.2.2.2.2.Kind r5.2.2.2.2.2.2.Row r5.2.2.2.2.2.2.Args r5.2.2.2.2.2.2.Func r5.2.2.2.2.2.2.Items r5.2.2.2.2.2.2.Op r5.2.2.2.2.2.2.Bound)) fun r4 => .h ((r4.1), (r4.2.1), (r4.2.2.1), (r4.2.2.2.1), (r4.2.2.2.2.1), (IntKind.i64.wrap (r4.2.2.2.2.2 + 1)), ()) ()) .d) .d) (.k (a, limit, deep, n_, i))) (.k (a, limit, deep, n_, i))) .d
def zsx (zt : List Term → Int → Int → Bool × Int) (x : ttTref05weight3) (y : Unit) : Wy ttTref05weight3 (Unit) ttTref05weight4 := zsq zt x.1 x.2.1 x.2.2.1 x.2.2.2.1 x.2.2.2.2.1 x.2.2.2.2.2.1
def zsw (zt : List Term → Int → Int → Bool × Int) (n : Nat) (a : List Term) (limit : Int) (deep : Int) (n_ : Int) (i : Int) (k : Int) : Bool × ttTref05weight4 := zN (zsx zt) default n (a, limit, deep, n_, i, k, ()) ()
def zxw (r : ttTref05weight4) : LTree ty := .done (.exit 2) [.sl 42 r.1, .lit (.int .i64 r.2.1), .lit (.int .i64 r.2.2.1), .lit (.int .i64 r.2.2.2.1), .lit (.int .i64 r.2.2.2.2)] []
def zyZ : LL ty ttTref05weight3 := za (lSl 42) (za (lInt .i64) (za (lInt .i64) (za (lInt .i64) (za (lInt .i64) (za (lInt .i64) zT)))))
def zyP : BL ty (Unit) := bNil
def zsH (zt : List Term → Int → Int → Bool × Int) (a : List Term) (limit : Int) (deep : Int) (n_ : Int) (i : Int) : Wy ttTref05weight5 (Unit) (Int) := .i (decide (i < Int.ofNat a.length)) (.i (decide (n_ ≤ limit)) (.i (decide (0 ≤ i) && decide (i < Int.ofNat a.length)) (.bn (zsw zt (a.length + limit.toNat + deep.toNat + (IntKind.i64.wrap (IntKind.i64.wrap (n_ + 1) + Int.ofNat (a.getD i.toNat default).Factors.length)).toNat + i.toNat + Int.toNat 0 + 1) a limit deep (IntKind.i64.wrap (IntKind.i64.wrap (n_ + 1) + Int.ofNat (a.getD i.toNat default).Factors.length)) i 0) fun r8 => .h ((r8.1), (r8.2.1), (r8.2.2.1), (r8.2.2.2.1), (IntKind.i64.wrap (r8.2.2.2.2 + 1)), ()) ()) .d) (.k n_)) (.k n_)
def zsB (zt : List Term → Int → Int → Bool × Int) (x : ttTref05weight5) (y : Unit) : Wy ttTref05weight5 (Unit) (Int) := zsH zt x.1 x.2.1 x.2.2.1 x.2.2.2.1 x.2.2.2.2.1
def zsy (zt : List Term → Int → Int → Bool × Int) (n : Nat) (a : List Term) (limit : Int) (deep : Int) (n_ : Int) (i : Int) : Bool × Int := zN (zsB zt) default n (a, limit, deep, n_, i, ()) ()
def zxg (r : Int) : LTree ty := .done (.exit 0) [.lit (.int .i64 r)] []
def zyS : LL ty ttTref05weight5 := za (lSl 42) (za (lInt .i64) (za (lInt .i64) (za (lInt .i64) (za (lInt .i64) zT))))
def zy3 : BL ty (Unit) := bNil
def zwf (x : ttTref05weight0) (y : Atom × Unit) : Nat := ((x.1.length + Int.toNat x.2.1 + Int.toNat x.2.2.1 + Int.toNat x.2.2.2.1 + Int.toNat x.2.2.2.2.1 + Int.toNat x.2.2.2.2.2.1 + Int.toNat x.2.2.2.2.2.2.2.1 + 1) + y.1.Args.length + y.1.Items.length)
def zv5 (x : ttTref05weight0) (y : Atom × Unit) : Nat := ((x.1.length + Int.toNat x.2.1 + Int.toNat x.2.2.1 + Int.toNat x.2.2.2.1 + Int.toNat x.2.2.2.2.1 + Int.toNat x.2.2.2.2.2.1 + Int.toNat x.2.2.2.2.2.2.2.1 + 1) + y.1.Args.length + y.1.Items.length)
def zxX (x : ttTref05weight3) (y : Unit) : Nat := (x.1.length + Int.toNat x.2.1 + Int.toNat x.2.2.1 + Int.toNat x.2.2.2.1 + Int.toNat x.2.2.2.2.1 + Int.toNat x.2.2.2.2.2.1 + 1)
def zxG (x : ttTref05weight5) (y : Unit) : Nat := (x.1.length + Int.toNat x.2.1 + Int.toNat x.2.2.1 + Int.toNat x.2.2.2.1 + Int.toNat x.2.2.2.2.1 + 1)
def zlp (zt : List Term → Int → Int → Bool × Int) : Cx ty := mkCx base 136 [(52, (zoq zt))] [] [(5, [(0, .keep), (1, .keep), (2, .keep), (7, .keep), (8, .keep)]), (9, [(0, .keep), (1, .keep), (2, .keep), (7, .keep), (8, .keep), (9, .keep)]), (14, [(0, .keep), (1, .keep), (2, .keep), (7, .keep), (8, .keep), (9, .keep), (10, .keep), (11, .keep)]), (18, [(0, .keep), (1, .keep), (2, .keep), (7, .keep), (8, .keep), (9, .keep), (10, .keep), (12, .keep)])] [(5, 1, [(7, .keep)]), (9, 3, [(0, .keep), (1, .keep), (2, .keep), (7, .keep), (8, .keep)]), (14, 5, [(0, .keep), (1, .keep), (2, .keep), (7, .keep), (8, .keep), (9, .keep), (10, .keep)]), (18, 7, [(0, .keep), (1, .keep), (2, .keep), (7, .keep), (8, .keep), (9, .keep)])] [(14, spW zyf zx6 (zqT zt) default zwa zwf), (18, spW zxJ zxF (zq9 zt) default zwm zv5), (9, spW zyZ zyP (zsx zt) default zxw zxX), (5, spW zyS zy3 (zsB zt) default zxg zxG)] []
theorem zEz (zt : List Term → Int → Int → Bool × Int) : zbr (zlp zt) (lp (body Tryz.f52) 2) := zZ (id := 14) (V := zyf) (B := zx6) (W := zqT zt) (z := default) (tr := zwa) (m := zwf)
theorem zEE (zt : List Term → Int → Int → Bool × Int) : zbr (zlp zt) (lp (body Tryz.f52) 3) := zZ (id := 18) (V := zxJ) (B := zxF) (W := zq9 zt) (z := default) (tr := zwm) (m := zv5)
theorem zET (zt : List Term → Int → Int → Bool × Int) : zbr (zlp zt) (lp (body Tryz.f52) 1) := zZ (id := 9) (V := zyZ) (B := zyP) (W := zsx zt) (z := default) (tr := zxw) (m := zxX)
theorem zFC (zt : List Term → Int → Int → Bool × Int) : zbr (zlp zt) (lp (body Tryz.f52) 0) := zZ (id := 5) (V := zyS) (B := zy3) (W := zsB zt) (z := default) (tr := zxg) (m := zxG)
def zo2 (zt : List Term → Int → Int → Bool × Int) (a : List Term) (limit : Int) (deep : Int) : Wy0 (Int) := .i (deep == 0) (.k (IntKind.i64.wrap (limit + 1))) (.bn (zsy zt (a.length + limit.toNat + deep.toNat + Int.toNat 0 + Int.toNat 0 + 1) a limit deep 0 0) fun r10 => .k r10)
def znZ (zt : List Term → Int → Int → Bool × Int) (a : List Term) (limit : Int) (deep : Int) : Bool × Int := (zo2 zt a limit deep).fin default
theorem zDR (zt : List Term → Int → Int → Bool × Int) (zHd : Sound Tryz.prog base 52 (zoq zt)) : Sound Tryz.prog base 52 (zoq (znZ zt)) :=
 zF (cx' := (zlp zt)) zR zB zL (zG ⟨zHd, trivial⟩) Tryz.call52 Tryz.func52 (c := body Tryz.f52) (by kernel_rfl) (zj (l := [lp (body Tryz.f52) 0, lp (body Tryz.f52) 1, lp (body Tryz.f52) 2, lp (body Tryz.f52) 3]) (by kernel_rfl) ⟨zFC zt, zET zt, zEz zt, zEE zt, trivial⟩) (sg := ⟨[.pure], []⟩) (A := zCX) (res := zz6) (W := fun x => zo2 zt x.1 x.2.1 x.2.2.1) (z := default)
def zGp : Nat → (List Term → Int → Int → Bool × Int)
 | 0 => fun _ _ _ => (false, default)
 | n + 1 => znZ (zGp n)
def zl8 (n : Nat) : List Term → Int → Int → Bool × Int := zGp n
theorem zy6 (n : Nat) : zl8 (n + 1) = znZ (zl8 n) := rfl
theorem zEs : ∀ n, Sound Tryz.prog base 52 (zoq (zl8 n))
 | 0 => zbB Tryz.call52 (fun _ => rfl)
 | n + 1 => by
  have ih := zEs n
  exact zDR _ (ih)
def zz3 : List Term → Int → Int → Bool × Int := zl8 1000
def ref05_weight_spec : Ab.Spec ty := zoq zz3
theorem zFB : Sound Tryz.prog base 52 ref05_weight_spec := (zEs 1000)
abbrev ttTref05Few0 := Int × List (List Term) × Int × Unit
def zAS (limit : Int) (l : List (List Term)) (i : Int) : Wy ttTref05Few0 (Unit) (Bool ⊕ Unit) := .i (decide (i < Int.ofNat l.length)) (.i (decide (0 ≤ i) && decide (i < Int.ofNat l.length)) (.bn (zz3 (l.getD i.toNat default) limit 12) fun r0 => .i (decide (r0 > limit)) (.k (.inl false)) (.h (limit, l, (IntKind.i64.wrap (i + 1)), ()) ())) .d) (.k (.inr ()))
def zAC (x : ttTref05Few0) (y : Unit) : Wy ttTref05Few0 (Unit) (Bool ⊕ Unit) := zAS x.1 x.2.1 x.2.2.1
def zz0 (n : Nat) (limit : Int) (l : List (List Term)) (i : Int) : Bool × (Bool ⊕ Unit) := zN (zAC) (.inl default) n (limit, l, i, ()) ()
def zEi (r : Bool ⊕ Unit) : LTree ty := .ite (isL r) (.done .ret [.lit (.bool (getL r))] []) (.done (.exit 0) [] [])
def zFq : LL ty ttTref05Few0 := za (lInt .i64) (za (lSl 23) (za (lInt .i64) zT))
def zFi : BL ty (Unit) := bNil
def zEe (x : ttTref05Few0) (y : Unit) : Nat := (Int.toNat x.1 + x.2.1.length + Int.toNat x.2.2.1 + 1)
def zFm : Cx ty := mkCx base 20 [(52, ref05_weight_spec)] [] [(2, [(0, .keep), (1, .keep), (5, .keep)])] [(2, 1, []), (2, 0, [(4, .keep)])] [(2, spW zFq zFi (zAC) (.inl default) zEi zEe)] []
theorem zJN : zbr zFm (lp (body Tryz.f12) 0) := zZ (id := 2) (V := zFq) (B := zFi) (W := zAC) (z := .inl default) (tr := zEi) (m := zEe)
def zCk (limit : Int) (l : List (List Term)) : Wy0 (Bool) := .bn (zz0 (limit.toNat + l.length + Int.toNat 0 + 1) limit l 0) fun r2 => .i (isL r2) (.k (getL r2)) (.k true)
def zt4 (limit : Int) (l : List (List Term)) : Bool × Bool := (zCk limit l).fin default
def zEu (r : Bool) : ARes ty := ⟨[.pure (.lit (.bool r))], []⟩
def zGk : AL base (Int × List (List Term) × Unit) := zf (zg (vInt .i64)) (zf (zg (vSl 23)) aNil)
def zDh : Ab.Spec ty := zr zGk fun x => ((zt4 x.1 x.2.1).1, zEu (zt4 x.1 x.2.1).2)
theorem zHD : Sound Tryz.prog base 12 zDh :=
 zF (cx' := zFm) zR zB zL (zG ⟨zFB, trivial⟩) Tryz.call12 Tryz.func12 (c := body Tryz.f12) (by kernel_rfl) (zj (l := [lp (body Tryz.f12) 0]) (by kernel_rfl) ⟨zJN, trivial⟩) (sg := ⟨[.pure], []⟩) (A := zGk) (res := zEu) (W := fun x => zCk x.1 x.2.1) (z := default)
abbrev ttTlaw05AnnotationRing0 := List Term × Unit
abbrev ttTlaw05AnnotationRing1 := List Term × List Term × Unit × Int × Unit × Int × Unit
abbrev ttTlaw05AnnotationRing2 := List Term × List Term × Unit
abbrev ttTlaw05AnnotationRing3 := List Term × List Term × List Term × Unit × Int × Unit × Int × Unit
abbrev ttTlaw05AnnotationRing4 := List Term × List Term × List Term × Unit
def zmh (a : List Term) : Wy ttTlaw05AnnotationRing0 (Unit) (Bool) := .bn (zd5 a []) fun r4 => .bn (zc8 a zj4.2) fun r3 => .bn (zc8 a []) fun r2 => .i (r4.2 == 0) (.i (r3.2 == 0) (.i (r2.2 == 0) (.bn (zb0 r4.1 a) fun r1 => .i (r1) (.bn (zb0 r3.1 a) fun r0 => .i (r0) (.k (Int.ofNat r2.1.length == 0)) (.k false)) (.k false)) (.k false)) (.k false)) (.k false)
def zi1 (x : ttTlaw05AnnotationRing0) (y : Unit) : Wy ttTlaw05AnnotationRing0 (Unit) (Bool) := zmh x.1
def zdN (n : Nat) (a : List Term) : Bool × Bool := zN (zi1) default n (a, ()) ()
def zqz (r : Bool) : LTree ty := .done .ret [.lit (.bool r)] []
def zqM : LL ty ttTlaw05AnnotationRing0 := za (lSl 42) zT
def zrr : BL ty (Unit) := bNil
def zml (a : List Term) (c : List Term) (g : Int) (j : Int) (ab : List Term) (bc : List Term) : Wy ttTlaw05AnnotationRing1 ttTlaw05AnnotationRing2 (Bool) := .bn (zc8 a c) fun r19 => .bn (zc8 a bc) fun r18 => .bn (zd5 ab r19.1) fun r17 => .i (j == 0) (.i (g == 0) (.i (r19.2 == 0) (.i (r18.2 == 0) (.i (r17.2 == 0) (.bn (zb0 r18.1 r17.1) fun r11 => .i (!r11) (.k false) (.bn (zdN 1 a) fun r10 => .k r10)) (.bn (zdN 1 a) fun r12 => .k r12)) (.bn (zdN 1 a) fun r13 => .k r13)) (.bn (zdN 1 a) fun r14 => .k r14)) (.bn (zdN 1 a) fun r15 => .k r15)) (.bn (zdN 1 a) fun r16 => .k r16)
def ziN (x : ttTlaw05AnnotationRing1) (y : ttTlaw05AnnotationRing2) : Wy ttTlaw05AnnotationRing1 ttTlaw05AnnotationRing2 (Bool) := zml x.1 x.2.1 x.2.2.2.1 x.2.2.2.2.2.1 y.1 y.2.1
def zer (n : Nat) (a : List Term) (c : List Term) (g : Int) (j : Int) (ab : List Term) (bc : List Term) : Bool × Bool := zN (ziN) default n (a, c, (), g, (), j, ()) (ab, bc, ())
def zp6 (r : Bool) : LTree ty := .done .ret [.lit (.bool r)] []
def zrd : LL ty ttTlaw05AnnotationRing1 := za (lSl 42) (za (lSl 42) (za (lOwn 1040) (za (lInt .i64) (za (lOwn 1041) (za (lInt .i64) zT)))))
def zrl : BL ty ttTlaw05AnnotationRing2 := bArr 42 true (bArr 42 true (bNil))
def zmn (a : List Term) (b : List Term) (c : List Term) (g : Int) (j : Int) (ab : List Term) (bc : List Term) : Wy ttTlaw05AnnotationRing3 ttTlaw05AnnotationRing2 (Bool) := .bn (zc8 ab c) fun r38 => .bn (zc8 b c) fun r37 => .bn (zc8 a r37.1) fun r36 => .i (g == 0) (.i (r38.2 == 0) (.i (r37.2 == 0) (.i (r36.2 == 0) (.bn (zb0 r38.1 r36.1) fun r31 => .i (!r31) (.k false) (.bn (zer 1 a c g j ab bc) fun r30 => .k r30)) (.bn (zer 1 a c g j ab bc) fun r32 => .k r32)) (.bn (zer 1 a c g j ab bc) fun r33 => .k r33)) (.bn (zer 1 a c g j ab bc) fun r34 => .k r34)) (.bn (zer 1 a c g j ab bc) fun r35 => .k r35)
def ziY (x : ttTlaw05AnnotationRing3) (y : ttTlaw05AnnotationRing2) : Wy ttTlaw05AnnotationRing3 ttTlaw05AnnotationRing2 (Bool) := zmn x.1 x.2.1 x.2.2.1 x.2.2.2.2.1 x.2.2.2.2.2.2.1 y.1 y.2.1
def zeA (n : Nat) (a : List Term) (b : List Term) (c : List Term) (g : Int) (j : Int) (ab : List Term) (bc : List Term) : Bool × Bool := zN (ziY) default n (a, b, c, (), g, (), j, ()) (ab, bc, ())
def zp8 (r : Bool) : LTree ty := .done .ret [.lit (.bool r)] []
def zq8 : LL ty ttTlaw05AnnotationRing3 := za (lSl 42) (za (lSl 42) (za (lSl 42) (za (lOwn 1040) (za (lInt .i64) (za (lOwn 1041) (za (lInt .i64) zT))))))
def zrw : BL ty ttTlaw05AnnotationRing2 := bArr 42 false (bArr 42 true (bNil))
def zmo (a : List Term) (b : List Term) (c : List Term) (e : Int) (g : Int) (sum : List Term) (ab : List Term) : Wy ttTlaw05AnnotationRing3 ttTlaw05AnnotationRing2 (Bool) := .bn (zd5 sum c) fun r56 => .bn (zd5 b c) fun r55 => .bn (zd5 a r55.1) fun r54 => .i (e == 0) (.i (r56.2 == 0) (.i (r55.2 == 0) (.i (r54.2 == 0) (.bn (zb0 r56.1 r54.1) fun r49 => .i (!r49) (.k false) (.bn (zeA 1 a b c g r55.2 ab r55.1) fun r48 => .k r48)) (.bn (zeA 1 a b c g r55.2 ab r55.1) fun r50 => .k r50)) (.bn (zeA 1 a b c g r55.2 ab r55.1) fun r51 => .k r51)) (.bn (zeA 1 a b c g r55.2 ab r55.1) fun r52 => .k r52)) (.bn (zeA 1 a b c g r55.2 ab r55.1) fun r53 => .k r53)
def zjf (x : ttTlaw05AnnotationRing3) (y : ttTlaw05AnnotationRing2) : Wy ttTlaw05AnnotationRing3 ttTlaw05AnnotationRing2 (Bool) := zmo x.1 x.2.1 x.2.2.1 x.2.2.2.2.1 x.2.2.2.2.2.2.1 y.1 y.2.1
def zgO (n : Nat) (a : List Term) (b : List Term) (c : List Term) (e : Int) (g : Int) (sum : List Term) (ab : List Term) : Bool × Bool := zN (zjf) default n (a, b, c, (), e, (), g, ()) (sum, ab, ())
def zqw (r : Bool) : LTree ty := .done .ret [.lit (.bool r)] []
def zqP : LL ty ttTlaw05AnnotationRing3 := za (lSl 42) (za (lSl 42) (za (lSl 42) (za (lOwn 1040) (za (lInt .i64) (za (lOwn 1041) (za (lInt .i64) zT))))))
def zri : BL ty ttTlaw05AnnotationRing2 := bArr 42 false (bArr 42 false (bNil))
def zm3 (a : List Term) (b : List Term) (c : List Term) : Wy ttTlaw05AnnotationRing4 (Unit) (Bool) := .bn (zd5 a b) fun r76 => .bn (zd5 b a) fun r75 => .bn (zc8 a b) fun r74 => .bn (zc8 b a) fun r73 => .i (r76.2 != r75.2) (.k false) (.i (r74.2 != r73.2) (.k false) (.i (r76.2 == 0) (.bn (zb0 r76.1 r75.1) fun r69 => .i (!r69) (.k false) (.i (r74.2 == 0) (.bn (zb0 r74.1 r73.1) fun r67 => .i (!r67) (.k false) (.bn (zgO 1 a b c r76.2 r74.2 r76.1 r74.1) fun r66 => .k r66)) (.bn (zgO 1 a b c r76.2 r74.2 r76.1 r74.1) fun r68 => .k r68))) (.i (r74.2 == 0) (.bn (zb0 r74.1 r73.1) fun r71 => .i (!r71) (.k false) (.bn (zgO 1 a b c r76.2 r74.2 r76.1 r74.1) fun r70 => .k r70)) (.bn (zgO 1 a b c r76.2 r74.2 r76.1 r74.1) fun r72 => .k r72))))
def zjK (x : ttTlaw05AnnotationRing4) (y : Unit) : Wy ttTlaw05AnnotationRing4 (Unit) (Bool) := zm3 x.1 x.2.1 x.2.2.1
def zsf (n : Nat) (a : List Term) (b : List Term) (c : List Term) : Bool × Bool := zN (zjK) default n (a, b, c, ()) ()
def zq6 (r : Bool) : LTree ty := .done .ret [.lit (.bool r)] []
def zr9 : LL ty ttTlaw05AnnotationRing4 := za (lSl 42) (za (lSl 42) (za (lSl 42) zT))
def zsp : BL ty (Unit) := bNil
def zmZ (a : List Term) (b : List Term) (c : List Term) : Wy ttTlaw05AnnotationRing4 (Unit) (Bool) := .bn (zt4 20 [a, b, c]) fun r92 => .i (!r92) (.k true) (.bn (zbE a) fun r91 => .i (!r91) (.k true) (.bn (zbE b) fun r90 => .i (!r90) (.k true) (.bn (zbE c) fun r89 => .i (!r89) (.k true) (.bn (zsf 1 a b c) fun r88 => .k r88))))
def zjG (x : ttTlaw05AnnotationRing4) (y : Unit) : Wy ttTlaw05AnnotationRing4 (Unit) (Bool) := zmZ x.1 x.2.1 x.2.2.1
def zr5 (n : Nat) (a : List Term) (b : List Term) (c : List Term) : Bool × Bool := zN (zjG) default n (a, b, c, ()) ()
def zqB (r : Bool) : LTree ty := .done .ret [.lit (.bool r)] []
def zr7 : LL ty ttTlaw05AnnotationRing4 := za (lSl 42) (za (lSl 42) (za (lSl 42) zT))
def zrZ : BL ty (Unit) := bNil
def zdZ : Cx ty := zMQ base0 260 [(11, zz9), (12, zDh), (13, zmA), (16, zmD), (29, zjN), (31, annotation_Valid_spec), (32, zkM)] [] [(3, [(0, .keep), (1, .keep), (2, .keep)]), (5, [(0, .keep), (1, .keep), (2, .keep)]), (11, [(0, .keep), (1, .keep), (2, .keep), (7, .keep), (8, .keep), (11, .keep), (12, .keep)]), (16, [(0, .keep), (1, .keep), (2, .keep), (11, .keep), (12, .keep), (17, .keep), (18, .keep)]), (21, [(0, .keep), (2, .keep), (11, .keep), (12, .keep), (17, .keep), (18, .keep)]), (26, [(0, .keep)])] [(3, 0, [(6, .keep)]), (5, 0, [(6, .keep)]), (11, 0, [(6, .keep)]), (16, 0, [(6, .keep)]), (21, 0, [(6, .keep)]), (26, 0, [(6, .keep)])] [] [] [(26, spW zqM zrr (zi1) default zqz fun x y => (1)), (21, spW zrd zrl (ziN) default zp6 fun x y => (1)), (16, spW zq8 zrw (ziY) default zp8 fun x y => (1)), (11, spW zqP zri (zjf) default zqw fun x y => (1)), (5, spW zr9 zsp (zjK) default zq6 fun x y => (1)), (3, spW zr7 zrZ (zjG) default zqB fun x y => (1))]
theorem zzv : zuM zdZ (jn (body Tryz.f4) 26) := zww (id := 26) (V := zqM) (B := zrr) (W := zi1) (z := default) (tr := zqz) (m := fun x y => (1))
theorem zzn : zuM zdZ (jn (body Tryz.f4) 21) := zww (id := 21) (V := zrd) (B := zrl) (W := ziN) (z := default) (tr := zp6) (m := fun x y => (1))
theorem zzx : zuM zdZ (jn (body Tryz.f4) 16) := zww (id := 16) (V := zq8) (B := zrw) (W := ziY) (z := default) (tr := zp8) (m := fun x y => (1))
theorem zzg : zuM zdZ (jn (body Tryz.f4) 11) := zww (id := 11) (V := zqP) (B := zri) (W := zjf) (z := default) (tr := zqw) (m := fun x y => (1))
theorem zA5 : zuM zdZ (jn (body Tryz.f4) 5) := zww (id := 5) (V := zr9) (B := zsp) (W := zjK) (z := default) (tr := zq6) (m := fun x y => (1))
theorem zzR : zuM zdZ (jn (body Tryz.f4) 3) := zww (id := 3) (V := zr7) (B := zrZ) (W := zjG) (z := default) (tr := zqB) (m := fun x y => (1))
def znA (a : List Term) (b : List Term) (c : List Term) : Wy0 (Bool) := .bn (zr5 1 a b c) fun r98 => .k r98
def zhb (a : List Term) (b : List Term) (c : List Term) : Bool × Bool := (znA a b c).fin default
def zmj (r : Bool) : ARes ty := ⟨[.pure (.lit (.bool r))], []⟩
def ztk : AL base0 ttTlaw05AnnotationRing4 := zf (zg (vSl 42)) (zf (zg (vSl 42)) (zf (zg (vSl 42)) aNil))
def zlK : Ab.Spec ty := zr ztk fun x => ((zhb x.1 x.2.1 x.2.2.1).1, zmj (zhb x.1 x.2.1 x.2.2.1).2)
theorem zyn : Sound Tryz.prog base0 4 zlK :=
 zF (cx' := zdZ) zR zic zP6 (zPd ⟨zGe, zHD.nodr, zpj, zpc, zlC.nodr, zcm.nodr, znx.nodr, trivial⟩) Tryz.call4 Tryz.func4 (c := body Tryz.f4) (by kernel_rfl) (zJY (l := []) (by kernel_rfl) trivial (js := [jn (body Tryz.f4) 3, jn (body Tryz.f4) 5, jn (body Tryz.f4) 11, jn (body Tryz.f4) 16, jn (body Tryz.f4) 21, jn (body Tryz.f4) 26]) (by kernel_rfl) ⟨zzR, zA5, zzg, zzx, zzn, zzv, trivial⟩) (sg := ⟨[.pure], []⟩) (A := ztk) (res := zmj) (W := fun x => znA x.1 x.2.1 x.2.2.1) (z := default)
end Go.Proofs.YtnolcogncjijpaaGreatDoor
end
