/-
  Planes in plain words.
-/
import Derived.Test.YtfeknaojnominaaSpA
namespace Go.Proofs.Ytfeknaojnominaa
open Go.RowKit
set_option linter.unusedVariables false
set_option linter.unusedSimpArgs false

def us (l : List Int) : List DV := l.map (.int .u16)
theorem ints_us (l : List Int) : ints (us l) = l := by simp [ints, us, Function.comp_def]
theorem us_length (l : List Int) : (us l).length = l.length := by simp [us]
theorem us_at {l : List Int} {k : Nat} (h : k < l.length) : (us l)[k]? = some (.int .u16 l[k]) := by simp [us, h]
theorem us_nAt {l : List Int} {k : Nat} (h : k < l.length) : nAt (us l) k = l[k] := by simp [nAt, us_at h]
theorem us_take (l : List Int) (k : Nat) : (us l).take k = us (l.take k) := by simp [us, List.map_take]
theorem us_drop (l : List Int) (k : Nat) : (us l).drop k = us (l.drop k) := by simp [us, List.map_drop]
theorem us_append (l m : List Int) : us l ++ us m = us (l ++ m) := by simp [us]
/-- a list of samples, read out of memory -/
def IsU (n : Nat) (xs : List DV) : Prop := xs = us (ints xs) ∧ n = xs.length
theorem isU_us (l : List Int) : IsU l.length (us l) := ⟨by rw [ints_us], by rw [us_length]⟩
theorem IsU.of {n : Nat} {xs : List DV} (h : IsU n xs) : ∃ l : List Int, xs = us l ∧ n = l.length := by
  refine ⟨ints xs, h.1, ?_⟩
  rw [h.2, h.1, us_length, ints_us]
theorem isU_of {n : Nat} {xs : List DV} (hn : xs.length = n) (hx : ∀ (j : Nat) d, xs[j]? = some d → ∃ v, d = .int .u16 v) : IsU n xs := by
  refine ⟨?_, hn.symm⟩
  clear hn
  induction xs with
  | nil => rfl
  | cons x xs ih =>
    obtain ⟨v, rfl⟩ := hx 0 _ rfl
    have := ih fun j d hj => hx (j + 1) d hj
    simp only [us, ints, List.map_cons] at this ⊢
    rw [← this]
theorem wf_us {l : List Int} (h : DV.wfs (us l)) {k : Nat} (hk : k < l.length) : 0 ≤ l[k] ∧ l[k] ≤ 65535 := by
  have := (wfs_iff _).1 h (.int .u16 l[k]) (by simp [us])
  simp [DV.wf, IntKind.min, IntKind.max, IntKind.signed, IntKind.bits] at this
  exact this

def fitsP (w h : Int) : Bool := decide (1 ≤ w) && decide (1 ≤ h) && decide (w * h ≤ 16777216)
def lenW (w h s : Int) : Int := IntKind.wrap .i64 (IntKind.wrap .i64 (IntKind.wrap .i64 (h - 1) * s) + w)
def validP (w h s : Int) (n : Nat) : Bool := fitsP w h && decide (w ≤ s) && decide (s ≤ 16777216) && decide (lenW w h s ≤ n)
def newOk (w h s : Int) : Bool := fitsP w h && decide (w ≤ s) && decide (s ≤ 16777216) && decide (lenW w h s ≤ 16777216)
structure Pl where (w h s : Int) (n : Nat) (xs : List DV)
def Pl.none : Pl := ⟨0, 0, 0, 0, []⟩
def newP (w h s : Int) : Pl := if newOk w h s then ⟨w, h, s, (lenW w h s).toNat, List.replicate (lenW w h s).toNat (.int .u16 0)⟩ else .none
def rowsN (w s : Int) (xs : List DV) (k : Nat) : List DV := (List.range k).flatMap fun y => (xs.drop (y * s.toNat)).take w.toNat
def compP (w h s : Int) (n : Nat) (xs : List DV) : Pl := if validP w h s n then ⟨w, h, w, (rowsN w s xs h.toNat).length, rowsN w s xs h.toNat⟩ else .none
def insideP (w h s : Int) (n : Nat) (x y : Int) : Bool := validP w h s n && decide (0 ≤ x) && decide (x < w) && decide (0 ≤ y) && decide (y < h)
def withP (w h s : Int) (n : Nat) (xs : List DV) (x y v : Int) : Pl := if insideP w h s n x y then ⟨w, h, s, n, xs.set (y * s + x).toNat (.int .u16 v)⟩ else .none
def atP (w h s : Int) (n : Nat) (xs : List DV) (x y : Int) : Int := if insideP w h s n x y then nAt xs (y * s + x).toNat else 0
def equalP (w h s : Int) (n : Nat) (xs : List DV) (w' h' s' : Int) (n' : Nat) (xs' : List DV) : Bool := validP w h s n && validP w' h' s' n' && decide (w = w') && decide (h = h') && decide (ints (rowsN w s xs h.toNat) = ints (rowsN w' s' xs' h'.toNat))
def sameP (w h s : Int) (n : Nat) (xs : List DV) (w' h' s' : Int) (n' : Nat) (xs' : List DV) : Bool := decide (w = w') && decide (h = h') && decide (s = s') && decide (n = n') && decide (ints xs = ints xs')
def mkX (n : Nat) (l : List DV) : List DV := (List.range n).map fun i => .int .u16 (if i < l.length then nAt l i else i)
def makeP (a b c d : Int) (l : List DV) : Pl :=
  let w := 1 + modS a 6
  let h := 1 + modS b 5
  let s := w + modS c 4
  let n := ((h - 1) * s + w + modS d 3).toNat
  ⟨w, h, s, n, mkX n l⟩

theorem size_fits {w h : Int} (h1 : 1 ≤ w) (h2 : 1 ≤ h) : (w ≤ IntKind.wrap .i64 (Int.tdiv 16777216 h)) ↔ w * h ≤ 16777216 := by
  have hd : Int.tdiv 16777216 h = 16777216 / h := Int.tdiv_eq_ediv_of_nonneg (by omega)
  have h3 : (0 : Int) ≤ 16777216 / h := Int.ediv_nonneg (by omega) (by omega)
  have h4 : (16777216 : Int) / h ≤ 16777216 := Int.ediv_le_self _ (by omega)
  rw [hd, IntWalk.i64_in _ ⟨by omega, by omega⟩, Int.le_ediv_iff_mul_le (by omega)]
theorem fits_le {w h : Int} (hf : fitsP w h = true) : 1 ≤ w ∧ 1 ≤ h ∧ w ≤ 16777216 ∧ h ≤ 16777216 ∧ w * h ≤ 16777216 := by
  simp only [fitsP, Bool.and_eq_true, decide_eq_true_eq] at hf
  obtain ⟨⟨h1, h2⟩, h3⟩ := hf
  have e1 : w * 1 ≤ w * h := Int.mul_le_mul_of_nonneg_left h2 (by omega)
  have e2 : 1 * h ≤ w * h := Int.mul_le_mul_of_nonneg_right h1 (by omega)
  omega
theorem lenW_eq {w h s : Int} (hf : fitsP w h = true) (h1 : w ≤ s) (h2 : s ≤ 16777216) : lenW w h s = (h - 1) * s + w ∧ 1 ≤ lenW w h s ∧ lenW w h s ≤ 562949953421312 ∧ 0 ≤ (h - 1) * s := by
  obtain ⟨a, b, c, d, _⟩ := fits_le hf
  have e := mul_bd (x := h - 1) (y := s) (M := 16777216) (by omega) (by omega) (by omega) (by omega)
  unfold lenW
  rw [IntWalk.i64_in (h - 1) ⟨by omega, by omega⟩, IntWalk.i64_in ((h - 1) * s) ⟨by omega, by omega⟩, IntWalk.i64_in _ ⟨by omega, by omega⟩]
  omega
theorem valid_facts {w h s : Int} {n : Nat} (hv : validP w h s n = true) : 1 ≤ w ∧ 1 ≤ h ∧ w ≤ 16777216 ∧ h ≤ 16777216 ∧ w * h ≤ 16777216 ∧ w ≤ s ∧ s ≤ 16777216 ∧ (h - 1) * s + w ≤ n ∧ 0 ≤ (h - 1) * s := by
  simp only [validP, Bool.and_eq_true, decide_eq_true_eq] at hv
  obtain ⟨⟨⟨h1, h2⟩, h3⟩, h4⟩ := hv
  obtain ⟨e1, _, _, e4⟩ := lenW_eq h1 h2 h3
  obtain ⟨a, b, c, d, e⟩ := fits_le h1
  rw [e1] at h4
  exact ⟨a, b, c, d, e, h2, h3, h4, e4⟩
/-- a place inside is a place in the list -/
theorem place {w h s : Int} {n : Nat} {x y : Int} (hv : validP w h s n = true) (h1 : 0 ≤ x) (h2 : x < w) (h3 : 0 ≤ y) (h4 : y < h) : 0 ≤ y * s ∧ y * s + x < n ∧ y * s + w ≤ n ∧ y * s ≤ 281474976710656 ∧ IntKind.wrap .i64 (y * s) = y * s ∧ IntKind.wrap .i64 (y * s + x) = y * s + x := by
  obtain ⟨a, b, c, d, e, f, g, i, j⟩ := valid_facts hv
  have e1 := mul_bd (x := y) (y := s) (M := 16777216) (by omega) (by omega) (by omega) (by omega)
  have e2 : y * s ≤ (h - 1) * s := Int.mul_le_mul_of_nonneg_right (by omega) (by omega)
  refine ⟨by omega, by omega, by omega, by omega, IntWalk.i64_in _ ⟨by omega, by omega⟩, IntWalk.i64_in _ ⟨by omega, by omega⟩⟩
theorem rowsN_succ (w s : Int) (xs : List DV) (k : Nat) : rowsN w s xs (k + 1) = rowsN w s xs k ++ (xs.drop (k * s.toNat)).take w.toNat := by
  simp [rowsN, List.range_succ]
theorem mkX_succ (k : Nat) (l : List DV) : mkX (k + 1) l = mkX k l ++ [.int .u16 (if k < l.length then nAt l k else k)] := by
  simp [mkX, List.range_succ]
theorem mkX_length (k : Nat) (l : List DV) : (mkX k l).length = k := by simp [mkX]

theorem eq_loop {l l' : List Int} (he : l.length = l'.length) (hm : l.length ≤ 2 ^ 63 - 1) {B : Bool} (hB : B = decide (l = l')) :
    (∃ k, (k ≤ l.length ∧ List.take k l = List.take k l') ∧ (0 : Int) = ((k : Nat) : Int)) ∧
        ∀ (k : Nat),
          k ≤ l.length ∧ List.take k l = List.take k l' →
            ((k : Int) < (l.length : Int) →
                (0 ≤ (k : Int) ∧ (k : Int) < (l.length : Int) ∧ k * 1 < l.length) ∧
                  (us l)[k * 1]? = some (DV.int IntKind.u16 (nAt (us l) (k * 1))) ∧
                    (0 ≤ (k : Int) ∧ (k : Int) < (l'.length : Int) ∧ k * 1 < l'.length) ∧
                      (us l')[k * 1]? = some (DV.int IntKind.u16 (nAt (us l') (k * 1))) ∧
                        ((nAt (us l) (k * 1) != nAt (us l') (k * 1)) = true → false = B) ∧
                          ((nAt (us l) (k * 1) != nAt (us l') (k * 1)) = false →
                            ∃ k' : Nat,
                              (k' ≤ l.length ∧ List.take k' l = List.take k' l') ∧
                                l.length - k' < l.length - k ∧ IntKind.i64.wrap ((k : Int) + 1) = (k' : Int))) ∧
              (¬(k : Int) < (l.length : Int) → true = B) := by
  subst hB
  refine ⟨⟨0, ⟨by omega, rfl⟩, rfl⟩, fun k hk => ⟨fun hlt => ?_, fun hge => ?_⟩⟩
  · have h : k < l.length := by omega
    have h' : k < l'.length := by omega
    have hw : IntKind.wrap .i64 ((k : Int) + 1) = ((k + 1 : Nat) : Int) := by rw [IntWalk.i64_in _ ⟨by omega, by omega⟩]; omega
    simp only [Nat.mul_one, us_nAt h, us_nAt h']
    refine ⟨by omega, us_at h, by omega, us_at h', fun hd => ?_, fun hd => ?_⟩
    · have : l ≠ l' := fun e => by subst e; simp at hd
      simp [this]
    · refine ⟨k + 1, ⟨by omega, ?_⟩, by omega, hw⟩
      have hr : l[k] = l'[k] := by simpa using hd
      rw [List.take_add_one, List.take_add_one, hk.2, List.getElem?_eq_getElem h, List.getElem?_eq_getElem h', hr]
  · have hkl : k = l.length := by omega
    have := hk.2
    rw [List.take_of_length_le (by omega), List.take_of_length_le (by omega)] at this
    simp [this]

/-! ### the rows of a plane -/
def rowsL (w s : Nat) (l : List Int) (k : Nat) : List Int := (List.range k).flatMap fun y => (l.drop (y * s)).take w
theorem rowsN_us (w s : Int) (l : List Int) (k : Nat) : rowsN w s (us l) k = us (rowsL w.toNat s.toNat l k) := by
  induction k with
  | zero => rfl
  | succ k ih =>
    rw [rowsN_succ, ih, us_drop, us_take, us_append]
    congr 1
    simp [rowsL, List.range_succ]
theorem rowsL_succ (w s : Nat) (l : List Int) (k : Nat) : rowsL w s l (k + 1) = rowsL w s l k ++ (l.drop (k * s)).take w := by
  simp [rowsL, List.range_succ]
theorem rowsL_len {w s : Nat} {l : List Int} : ∀ {k : Nat}, (∀ y, y < k → y * s + w ≤ l.length) → (rowsL w s l k).length = k * w
  | 0, _ => by simp [rowsL]
  | k + 1, h => by
    rw [rowsL_succ, List.length_append, rowsL_len (k := k) fun y hy => h y (by omega), Nat.succ_mul]
    have := h k (by omega)
    simp
    omega
theorem rowsL_at {w s : Nat} {l : List Int} : ∀ {k : Nat}, (∀ y, y < k → y * s + w ≤ l.length) → ∀ y x, y < k → x < w → (rowsL w s l k)[y * w + x]? = l[y * s + x]?
  | 0, _, y, x, hy, _ => by omega
  | k + 1, h, y, x, hy, hx => by
    have hl := rowsL_len (k := k) fun y hy => h y (by omega)
    rw [rowsL_succ]
    by_cases e : y = k
    · subst e
      rw [List.getElem?_append_right (by omega), hl, List.getElem?_take, if_pos (by omega), List.getElem?_drop]
      congr 1; omega
    · have h1 : (y + 1) * w ≤ k * w := Nat.mul_le_mul_right _ (by omega)
      rw [Nat.succ_mul] at h1
      rw [List.getElem?_append_left (by omega)]
      exact rowsL_at (fun y hy => h y (by omega)) y x (by omega) hx
theorem rowsL_ext {w s s' : Nat} {l l' : List Int} {k : Nat} (h : ∀ y, y < k → y * s + w ≤ l.length) (h' : ∀ y, y < k → y * s' + w ≤ l'.length) :
    rowsL w s l k = rowsL w s' l' k ↔ ∀ y x, y < k → x < w → l[y * s + x]? = l'[y * s' + x]? := by
  constructor
  · intro e y x hy hx
    rw [← rowsL_at h y x hy hx, ← rowsL_at h' y x hy hx, e]
  · intro e
    apply List.ext_getElem?
    intro i
    by_cases hi : i < k * w
    · have hw : 0 < w := by
        cases w with
        | zero => simp at hi
        | succ w => omega
      have hy : i / w < k := Nat.div_lt_of_lt_mul (by rw [Nat.mul_comm]; exact hi)
      have hx : i % w < w := Nat.mod_lt _ hw
      have hi' : i / w * w + i % w = i := by rw [Nat.mul_comm]; exact Nat.div_add_mod i w
      rw [← hi', rowsL_at h _ _ hy hx, rowsL_at h' _ _ hy hx]
      exact e _ _ hy hx
    · rw [List.getElem?_eq_none (by rw [rowsL_len h]; omega), List.getElem?_eq_none (by rw [rowsL_len h']; omega)]
theorem valid_rows {w h s : Int} {l : List Int} (hv : validP w h s l.length = true) : ∀ y, y < h.toNat → y * s.toNat + w.toNat ≤ l.length := by
  intro y hy
  obtain ⟨a, b, c, d, e, f, g, i, j⟩ := valid_facts hv
  obtain ⟨p1, p2, p3, p4, _⟩ := place (x := 0) (y := (y : Int)) hv (by omega) (by omega) (by omega) (by omega)
  have e1 : ((y * s.toNat : Nat) : Int) = (y : Int) * s := by rw [Int.natCast_mul, Int.toNat_of_nonneg (by omega)]
  omega
theorem idx {s : Int} {y x : Nat} (hs : 0 ≤ s) : ((y : Int) * s + (x : Int)).toNat = y * s.toNat + x := by
  have e1 : ((y * s.toNat : Nat) : Int) = (y : Int) * s := by rw [Int.natCast_mul, Int.toNat_of_nonneg hs]
  omega
theorem idx0 {s : Int} {y : Nat} (hs : 0 ≤ s) : ((y : Int) * s).toNat = y * s.toNat := by
  have e1 : ((y * s.toNat : Nat) : Int) = (y : Int) * s := by rw [Int.natCast_mul, Int.toNat_of_nonneg hs]
  omega
theorem area_bd {w h : Int} {k : Nat} (h1 : 1 ≤ w) (h2 : 1 ≤ h) (h3 : w * h ≤ 16777216) (hk : k ≤ h.toNat) : k * w.toNat ≤ 16777216 := by
  have e1 : k * w.toNat ≤ h.toNat * w.toNat := Nat.mul_le_mul_right _ hk
  have e2 : ((h.toNat * w.toNat : Nat) : Int) = h * w := by rw [Int.natCast_mul, Int.toNat_of_nonneg (by omega), Int.toNat_of_nonneg (by omega)]
  rw [Int.mul_comm] at e2
  omega
theorem rowsN_len {w h s : Int} {l : List Int} (hv : validP w h s l.length = true) {k : Nat} (hk : k ≤ h.toNat) : (rowsN w s (us l) k).length = k * w.toNat := by
  rw [rowsN_us, us_length, rowsL_len fun y hy => valid_rows hv y (by omega)]
theorem comp_step {w h s : Int} {l : List Int} (hv : validP w h s l.length = true) {k : Nat} (hlt : (k : Int) < h) :
    (0 ≤ (k : Int) * s ∧ (k : Int) * s + w ≤ (l.length : Int)) ∧ IntKind.wrap .i64 ((k : Int) * s) = (k : Int) * s ∧ IntKind.wrap .i64 ((k : Int) * s + w) = (k : Int) * s + w ∧ ((k : Int) * s + w - (k : Int) * s).toNat = w.toNat ∧ ((k : Int) * s).toNat = k * s.toNat ∧
      (List.take w.toNat (List.drop (k * s.toNat) (us l))).length = w.toNat ∧ (rowsN w s (us l) k).length + w.toNat = (rowsN w s (us l) (k + 1)).length ∧ (rowsN w s (us l) k).length + w.toNat ≤ 16777216 ∧ 1 ≤ w ∧ IntKind.wrap .i64 ((k : Int) + 1) = ((k + 1 : Nat) : Int) := by
  obtain ⟨a, b, c, d, e, f, g, i, j⟩ := valid_facts hv
  obtain ⟨p1, p2, p3, p4, p5, p6⟩ := place hv (x := 0) (y := (k : Int)) (by omega) (by omega) (by omega) (by omega)
  have e4 := rowsN_len hv (k := k) (by omega)
  have e5 := rowsN_len hv (k := k + 1) (by omega)
  have e6 := area_bd (k := k + 1) a b e (by omega)
  have e7 := valid_rows hv k (by omega)
  refine ⟨⟨p1, p3⟩, p5, IntWalk.i64_in _ ⟨by omega, by omega⟩, by omega, idx0 (by omega), ?_, ?_, ?_, a, by rw [IntWalk.i64_in _ ⟨by omega, by omega⟩]; omega⟩
  · simp [us_length]; omega
  · rw [e4, e5, Nat.succ_mul]
  · rw [e4]; rw [Nat.succ_mul] at e6; omega
theorem part_ext {l l' : List Int} {a b w : Nat} : (l.drop a).take w = (l'.drop b).take w ↔ ∀ x, x < w → l[a + x]? = l'[b + x]? := by
  constructor
  · intro e x hx
    have := congrArg (fun t => t[x]?) e
    simpa [List.getElem?_take, hx, List.getElem?_drop] using this
  · intro e
    apply List.ext_getElem?
    intro i
    rw [List.getElem?_take, List.getElem?_take]
    split
    · rename_i hi; rw [List.getElem?_drop, List.getElem?_drop]; exact e i hi
    · rfl
theorem part_us {l l' : List Int} {a b w : Nat} : ints (((us l).drop a).take w) = ints (((us l').drop b).take w) ↔ ∀ x, x < w → l[a + x]? = l'[b + x]? := by
  rw [us_drop, us_take, us_drop, us_take, ints_us, ints_us, part_ext]
theorem rows_us {w h s s' : Int} {l l' : List Int} (hv : validP w h s l.length = true) (hv' : validP w h s' l'.length = true) {k : Nat} (hk : k ≤ h.toNat) :
    ints (rowsN w s (us l) k) = ints (rowsN w s' (us l') k) ↔ ∀ y x, y < k → x < w.toNat → l[y * s.toNat + x]? = l'[y * s'.toNat + x]? := by
  rw [rowsN_us, rowsN_us, ints_us, ints_us, rowsL_ext (fun y hy => valid_rows hv y (by omega)) (fun y hy => valid_rows hv' y (by omega))]
theorem at_in {w h s : Int} {l : List Int} (hv : validP w h s l.length = true) {x y : Nat} (hx : x < w.toNat) (hy : y < h.toNat) : l[y * s.toNat + x]? = some (atP w h s l.length (us l) x y) := by
  have hr := valid_rows hv y hy
  obtain ⟨a, b, c, d, e, f, g, i, j⟩ := valid_facts hv
  have hi : insideP w h s l.length x y = true := by simp [insideP, hv]; omega
  have hk : y * s.toNat + x < l.length := by omega
  have hz : ((y : Int) * s + (x : Int)).toNat = y * s.toNat + x := idx (by omega)
  simp only [atP, hi, if_true, hz, us_nAt hk, List.getElem?_eq_getElem hk]
theorem isU_part {l : List Int} {a w : Nat} (h : a + w ≤ l.length) : IsU w (List.take w (List.drop a (us l))) := by
  have e : List.take w (List.drop a (us l)) = us ((l.drop a).take w) := by rw [us_drop, us_take]
  have ln : ((l.drop a).take w).length = w := by simp; omega
  have := isU_us ((l.drop a).take w)
  rw [ln, ← e] at this
  exact this
theorem wrap_succ {k : Nat} (h : k ≤ 9223372036854775806) : IntKind.wrap .i64 ((k : Int) + 1) = ((k + 1 : Nat) : Int) := by rw [IntWalk.i64_in _ ⟨by omega, by omega⟩]; omega
theorem makeP_facts (a b c d : Int) (xs : List DV) : ∃ u v p q : Int, modS a 6 = u ∧ modS b 5 = v ∧ modS c 4 = p ∧ modS d 3 = q ∧ 0 ≤ u ∧ u ≤ 5 ∧ 0 ≤ v ∧ v ≤ 4 ∧ 0 ≤ p ∧ p ≤ 3 ∧ 0 ≤ q ∧ q ≤ 2 ∧ 0 ≤ v * (1 + u + p) ∧ v * (1 + u + p) ≤ 36 ∧
    makeP a b c d xs = ⟨1 + u, 1 + v, 1 + u + p, (v * (1 + u + p) + (1 + u) + q).toNat, mkX (v * (1 + u + p) + (1 + u) + q).toNat xs⟩ := by
  refine ⟨_, _, _, _, rfl, rfl, rfl, rfl, ?_⟩
  rw [modS_eq (by omega) (by omega), modS_eq (by omega) (by omega), modS_eq (by omega) (by omega), modS_eq (by omega) (by omega)]
  have h1 : 0 ≤ b % 5 * (1 + a % 6 + c % 4) := Int.mul_nonneg (by omega) (by omega)
  have h2 : b % 5 * (1 + a % 6 + c % 4) ≤ 4 * 9 := Int.mul_le_mul (by omega) (by omega) (by omega) (by omega)
  refine ⟨by omega, by omega, by omega, by omega, by omega, by omega, by omega, by omega, h1, by omega, ?_⟩
  unfold makeP
  simp only
  rw [modS_eq (by omega) (by omega), modS_eq (by omega) (by omega), modS_eq (by omega) (by omega), modS_eq (by omega) (by omega)]
  rw [show 1 + b % 5 - 1 = b % 5 by omega]
theorem make_valid (a b c d : Int) (xs : List DV) : validP (makeP a b c d xs).w (makeP a b c d xs).h (makeP a b c d xs).s (makeP a b c d xs).n = true ∧ 1 ≤ (makeP a b c d xs).n ∧ (makeP a b c d xs).n ≤ 44 := by
  obtain ⟨u, v, p, q, _, _, _, _, b1, b2, b3, b4, b5, b6, b7, b8, b9, b10, hM⟩ := makeP_facts a b c d xs
  rw [hM]
  have hf : fitsP (1 + u) (1 + v) = true := by
    have h2 : (1 + u) * (1 + v) ≤ 6 * 5 := Int.mul_le_mul (by omega) (by omega) (by omega) (by omega)
    simp only [fitsP, Bool.and_eq_true, decide_eq_true_eq]
    omega
  obtain ⟨e1, _⟩ := lenW_eq hf (s := 1 + u + p) (by omega) (by omega)
  simp only [validP, hf, Bool.true_and, Bool.and_eq_true, decide_eq_true_eq, e1]
  rw [show 1 + v - 1 = v by omega]
  omega
theorem isU_mkX (n : Nat) (xs : List DV) : IsU n (mkX n xs) := by
  refine ⟨?_, by rw [mkX_length]⟩
  simp [mkX, ints, us, Function.comp_def]
theorem isU_make (a b c d : Int) (xs : List DV) : IsU (makeP a b c d xs).n (makeP a b c d xs).xs := isU_mkX _ _
theorem us_replicate (n : Nat) (v : Int) : List.replicate n (DV.int .u16 v) = us (List.replicate n v) := by simp [us]
theorem isU_none : IsU 0 [] := ⟨rfl, rfl⟩
theorem isU_new (w h s : Int) : IsU (newP w h s).n (newP w h s).xs := by
  unfold newP
  split
  · simp only [us_replicate]
    have := isU_us (List.replicate (lenW w h s).toNat 0)
    rwa [List.length_replicate] at this
  · exact isU_none
theorem isU_rows (w s : Int) {n : Nat} {xs : List DV} (hx : IsU n xs) (k : Nat) : IsU (rowsN w s xs k).length (rowsN w s xs k) := by
  obtain ⟨l, rfl, _⟩ := hx.of
  rw [rowsN_us, us_length]
  exact isU_us _
theorem isU_comp (w h s : Int) {n : Nat} {xs : List DV} (hx : IsU n xs) : IsU (compP w h s n xs).n (compP w h s n xs).xs := by
  unfold compP
  split
  · exact isU_rows w s hx _
  · exact isU_none
theorem isU_set {n : Nat} {xs : List DV} (hx : IsU n xs) (k : Nat) (v : Int) : IsU n (xs.set k (.int .u16 v)) := by
  obtain ⟨l, rfl, rfl⟩ := hx.of
  have : (us l).set k (.int .u16 v) = us (l.set k v) := by simp [us, List.map_set]
  rw [this]
  have h := isU_us (l.set k v)
  rwa [List.length_set] at h
theorem isU_with (w h s : Int) {n : Nat} {xs : List DV} (hx : IsU n xs) (x y v : Int) : IsU (withP w h s n xs x y v).n (withP w h s n xs x y v).xs := by
  unfold withP
  split
  · exact isU_set hx _ _
  · exact isU_none
theorem sameP_self (w h s : Int) (n : Nat) (xs : List DV) : sameP w h s n xs w h s n xs = true := by simp [sameP]
theorem comp_valid {w h s : Int} {l : List Int} (hv : validP w h s l.length = true) : validP w h w (rowsN w s (us l) h.toNat).length = true := by
  obtain ⟨a, b, c, d, e, _⟩ := valid_facts hv
  have hf : fitsP w h = true := by simp [fitsP, a, b, e]
  obtain ⟨e1, _⟩ := lenW_eq hf (Int.le_refl w) c
  have e2 : (h - 1) * w + w = h * w := by rw [Int.sub_mul]; omega
  have e3 : ((h.toNat * w.toNat : Nat) : Int) = h * w := by rw [Int.natCast_mul, Int.toNat_of_nonneg (by omega), Int.toNat_of_nonneg (by omega)]
  simp only [validP, hf, Bool.true_and, Bool.and_eq_true, decide_eq_true_eq, e1, e2, rowsN_len hv (Nat.le_refl _)]
  omega
theorem comp_equal {w h s : Int} {n : Nat} {xs : List DV} (hx : IsU n xs) (hv : validP w h s n = true) :
    equalP w h s n xs (compP w h s n xs).w (compP w h s n xs).h (compP w h s n xs).s (compP w h s n xs).n (compP w h s n xs).xs = true := by
  obtain ⟨l, rfl, rfl⟩ := hx.of
  have hv2 := comp_valid hv
  simp only [compP, hv, if_true]
  simp only [equalP, hv, hv2, Bool.true_and, decide_true, decide_eq_true_eq]
  rw [rowsN_us w s l h.toNat] at hv2
  rw [us_length] at hv2
  have key := (rows_us hv hv2 (Nat.le_refl _)).2 fun y x hy hx => (rowsL_at (fun y hy => valid_rows hv y hy) y x hy hx).symm
  rw [← rowsN_us w s l h.toNat] at key
  exact key
theorem longer_equal {w h s : Int} {n m : Nat} {xs zs : List DV} (hx : IsU n xs) (hz : IsU m zs) (hv : validP w h s n = true) : equalP w h s n xs w h s (n + m) (xs ++ zs) = true := by
  obtain ⟨l, rfl, rfl⟩ := hx.of
  obtain ⟨l', rfl, rfl⟩ := hz.of
  have hv2 : validP w h s (l ++ l').length = true := by
    simp only [validP, Bool.and_eq_true, decide_eq_true_eq, List.length_append] at hv ⊢
    exact ⟨hv.1, by have := hv.2; omega⟩
  rw [us_append, show l.length + l'.length = (l ++ l').length by simp]
  simp only [equalP, hv, hv2, Bool.true_and, decide_true, decide_eq_true_eq]
  rw [rows_us hv hv2 (Nat.le_refl _)]
  intro y x hy hx
  have := valid_rows hv y hy
  rw [List.getElem?_append_left (by omega)]
theorem valid_none {w h s : Int} : validP w h s 0 = false := by
  cases hv : validP w h s 0 with
  | false => rfl
  | true =>
    obtain ⟨a, b, c, d, e, f, g, i, j⟩ := valid_facts hv
    omega
theorem make_bds (a b c d : Int) (xs : List DV) : 1 ≤ (makeP a b c d xs).w ∧ (makeP a b c d xs).w ≤ 6 ∧ 1 ≤ (makeP a b c d xs).h ∧ (makeP a b c d xs).h ≤ 5 ∧ (makeP a b c d xs).w ≤ (makeP a b c d xs).s ∧ (makeP a b c d xs).s ≤ 9 := by
  obtain ⟨u, v, p, q, _, _, _, _, b1, b2, b3, b4, b5, b6, b7, b8, b9, b10, hM⟩ := makeP_facts a b c d xs
  rw [hM]
  simp only
  omega
theorem at_with {w h s : Int} {n : Nat} {xs : List DV} {x y v : Int} (hx : IsU n xs) (hi : insideP w h s n x y = true) : atP w h s n (xs.set (y * s + x).toNat (.int .u16 v)) x y = v := by
  have hi' := hi
  simp only [insideP, Bool.and_eq_true, decide_eq_true_eq] at hi'
  obtain ⟨⟨⟨⟨h1, h2⟩, h3⟩, h4⟩, h5⟩ := hi'
  obtain ⟨p1, p2, p3, p4, p5, p6⟩ := place h1 h2 h3 h4 h5
  have hk : (y * s + x).toNat < xs.length := by rw [← hx.2]; omega
  simp only [atP, hi, if_true, nAt]
  rw [List.getElem?_set_self hk]
theorem at_with_ne {w h s : Int} {n : Nat} {xs : List DV} {x y v x' y' : Int} (hi : insideP w h s n x y = true) (hi2 : insideP w h s n x' y' = true) (hne : ¬ (x = x' ∧ y = y')) : atP w h s n (xs.set (y * s + x).toNat (.int .u16 v)) x' y' = atP w h s n xs x' y' := by
  simp only [atP, hi2, if_true, nAt]
  simp only [insideP, Bool.and_eq_true, decide_eq_true_eq] at hi hi2
  obtain ⟨⟨⟨⟨h1, h2⟩, h3⟩, h4⟩, h5⟩ := hi
  obtain ⟨⟨⟨⟨_, g2⟩, g3⟩, g4⟩, g5⟩ := hi2
  obtain ⟨p1, _⟩ := place h1 h2 h3 h4 h5
  obtain ⟨q1, _⟩ := place h1 g2 g3 g4 g5
  obtain ⟨_, _, _, _, _, f, _⟩ := valid_facts h1
  rw [List.getElem?_set_ne]
  intro e
  have e2 : y * s + x = y' * s + x' := by omega
  have e3 : (y - y') * s = x' - x := by rw [Int.sub_mul]; omega
  rcases Int.lt_trichotomy y y' with hl | he | hl
  · have := Int.mul_le_mul_of_nonneg_right (show (1 : Int) ≤ y' - y by omega) (show 0 ≤ s by omega)
    rw [Int.sub_mul] at this
    omega
  · subst he; exact hne ⟨by omega, rfl⟩
  · have := Int.mul_le_mul_of_nonneg_right (show (1 : Int) ≤ y - y' by omega) (show 0 ≤ s by omega)
    rw [Int.sub_mul] at this
    omega
end Go.Proofs.Ytfeknaojnominaa
