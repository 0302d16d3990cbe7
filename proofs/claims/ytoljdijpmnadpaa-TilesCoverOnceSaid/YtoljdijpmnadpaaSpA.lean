/-
  Rectangles as numbers: plain words, no program is named.
-/
import Derived.Test.YtoljdijpmnadpaaAbU
namespace Go.Proofs.Ytoljdijpmnadpaa
open Go.RowKit
set_option linter.unusedVariables false
set_option linter.unusedSimpArgs false

theorem mul_bd {x y M : Int} (h1 : 0 ≤ x) (h2 : x ≤ M) (h3 : 0 ≤ y) (h4 : y ≤ M) : 0 ≤ x * y ∧ x * y ≤ M * M :=
  ⟨Int.mul_nonneg h1 h3, Int.mul_le_mul h2 h4 h3 (by omega)⟩

/-! ### remainders -/
def modS (n k : Int) : Int := if k < 1 then 0 else (IntKind.wrap .i64 (n.tmod k + k)).tmod k
theorem modS_eq {n k : Int} (hk : 1 ≤ k) (hk' : k ≤ 4611686018427387904) : modS n k = n % k := by
  unfold modS
  rw [if_neg (by omega)]
  have a := Int.tmod_lt_of_pos n (show 0 < k by omega)
  have b : -k < n.tmod k := by
    rcases Int.le_total 0 n with h | h
    · have := Int.tmod_nonneg k h; omega
    · have := Int.tmod_lt_of_pos (-n) (show 0 < k by omega)
      rw [Int.neg_tmod] at this
      omega
  rw [IntWalk.i64_in _ ⟨by omega, by omega⟩, Int.tmod_eq_emod_of_nonneg (by omega), Int.add_emod_right, Int.tmod_def]
  rw [show n - k * n.tdiv k = n + k * (-(n.tdiv k)) from by rw [Int.mul_neg]; omega, Int.add_mul_emod_self_left]

/-! ### rectangles -/
structure Rc where
  a : Int
  b : Int
  c : Int
  d : Int
deriving DecidableEq

def okC (v : Int) : Bool := decide (-1073741824 ≤ v) && decide (v ≤ 1073741824)
def Rc.valid (r : Rc) : Bool := okC r.a && okC r.b && okC r.c && okC r.d
def Rc.empty (r : Rc) : Bool := !r.valid || decide (r.c ≤ r.a) || decide (r.d ≤ r.b)
def Rc.zero : Rc := ⟨0, 0, 0, 0⟩
def Rc.clean (r : Rc) : Rc := if r.empty then Rc.zero else r
def Rc.area (r : Rc) : Int := if r.empty then 0 else (r.c - r.a) * (r.d - r.b)
def Rc.has (r : Rc) (x y : Int) : Bool := !r.empty && decide (r.a ≤ x) && decide (x < r.c) && decide (r.b ≤ y) && decide (y < r.d)
def Rc.inter (r q : Rc) : Rc := if r.empty || q.empty then Rc.zero else Rc.clean ⟨max r.a q.a, max r.b q.b, min r.c q.c, min r.d q.d⟩
def Rc.covers (r q : Rc) : Bool := q.empty || (!r.empty && decide (r.a ≤ q.a) && decide (r.b ≤ q.b) && decide (q.c ≤ r.c) && decide (q.d ≤ r.d))
def Rc.hull (r q : Rc) : Rc := if q.empty then r else if r.empty then q else ⟨min r.a q.a, min r.b q.b, max r.c q.c, max r.d q.d⟩
def Rc.move (r : Rc) (x y : Int) : Rc := if r.empty || decide (x < -2147483648) || decide (2147483648 < x) || decide (y < -2147483648) || decide (2147483648 < y) then Rc.zero else Rc.clean ⟨r.a + x, r.b + y, r.c + x, r.d + y⟩
def Rc.eqB (r q : Rc) : Bool := r.a == q.a && r.b == q.b && r.c == q.c && r.d == q.d

theorem Rc.empty_false {r : Rc} (h : r.empty = false) :
    -1073741824 ≤ r.a ∧ r.a < r.c ∧ r.c ≤ 1073741824 ∧ -1073741824 ≤ r.b ∧ r.b < r.d ∧ r.d ≤ 1073741824 := by
  simp [Rc.empty, Rc.valid, okC] at h
  omega
theorem Rc.empty_iff (r : Rc) : r.empty = false ↔ -1073741824 ≤ r.a ∧ r.a < r.c ∧ r.c ≤ 1073741824 ∧ -1073741824 ≤ r.b ∧ r.b < r.d ∧ r.d ≤ 1073741824 := by
  refine ⟨Rc.empty_false, fun h => ?_⟩
  simp [Rc.empty, Rc.valid, okC]
  omega
theorem Rc.zero_empty : Rc.zero.empty = true := by decide
theorem Rc.clean_of {r : Rc} (h : r.empty = false) : r.clean = r := by simp [Rc.clean, h]
theorem Rc.clean_zero {r : Rc} (h : r.empty = true) : r.clean = Rc.zero := by simp [Rc.clean, h]
theorem Rc.area_wrap (r : Rc) : IntKind.wrap .i64 (IntKind.wrap .i64 (r.clean.c - r.clean.a) * IntKind.wrap .i64 (r.clean.d - r.clean.b)) = r.area := by
  by_cases h : r.empty = true
  · rw [Rc.clean_zero h]; simp [Rc.area, h, Rc.zero, IntKind.wrap_i64]
  · have h : r.empty = false := by simpa using h
    obtain ⟨h1, h2, h3, h4, h5, h6⟩ := Rc.empty_false h
    rw [Rc.clean_of h, IntWalk.i64_in (r.c - r.a) ⟨by omega, by omega⟩, IntWalk.i64_in (r.d - r.b) ⟨by omega, by omega⟩]
    have := mul_bd (x := r.c - r.a) (y := r.d - r.b) (M := 2147483648) (by omega) (by omega) (by omega) (by omega)
    rw [IntWalk.i64_in _ ⟨by omega, by omega⟩]
    simp [Rc.area, h]

theorem Rc.move_of {r : Rc} {x y : Int} (h : r.empty = false) (hx : -4294967296 ≤ x) (hx' : x ≤ 4294967296) (hy : -4294967296 ≤ y) (hy' : y ≤ 4294967296) :
    Rc.clean ⟨IntKind.wrap .i64 (r.a + x), IntKind.wrap .i64 (r.b + y), IntKind.wrap .i64 (r.c + x), IntKind.wrap .i64 (r.d + y)⟩ = r.move x y := by
  obtain ⟨h1, h2, h3, h4, h5, h6⟩ := Rc.empty_false h
  rw [IntWalk.i64_in (r.a + x) ⟨by omega, by omega⟩, IntWalk.i64_in (r.b + y) ⟨by omega, by omega⟩, IntWalk.i64_in (r.c + x) ⟨by omega, by omega⟩, IntWalk.i64_in (r.d + y) ⟨by omega, by omega⟩]
  unfold Rc.move
  split
  · rename_i hc
    simp [h] at hc
    refine Rc.clean_zero ?_
    cases he : Rc.empty ⟨r.a + x, r.b + y, r.c + x, r.d + y⟩ with
    | true => rfl
    | false =>
      have := Rc.empty_false he
      simp only at this
      omega
  · rfl
theorem Rc.move_far {r : Rc} {x y : Int} (h : r.empty = true ∨ x < -2147483648 ∨ 2147483648 < x ∨ y < -2147483648 ∨ 2147483648 < y) : r.move x y = Rc.zero := by
  unfold Rc.move
  rw [if_pos]
  simpa [or_assoc] using h
theorem Rc.covers_inter (r q : Rc) (h : q.empty = false) : Rc.eqB (r.inter q) q = r.covers q := by
  have := Rc.empty_false h
  cases hr : r.empty with
  | true =>
    simp [Rc.inter, Rc.covers, hr, h, Rc.eqB, Rc.zero]
    omega
  | false =>
    have h2 := Rc.empty_false hr
    have e : r.inter q = Rc.clean ⟨max r.a q.a, max r.b q.b, min r.c q.c, min r.d q.d⟩ := by simp [Rc.inter, hr, h]
    rw [e]
    cases hc : Rc.empty ⟨max r.a q.a, max r.b q.b, min r.c q.c, min r.d q.d⟩ with
    | true =>
      rw [Rc.clean_zero hc]
      have h3 : ¬ (Rc.empty ⟨max r.a q.a, max r.b q.b, min r.c q.c, min r.d q.d⟩ = false) := by rw [hc]; simp
      rw [Rc.empty_iff] at h3
      simp only at h3
      simp [Rc.eqB, Rc.covers, hr, h, Rc.zero]
      rw [Bool.eq_iff_iff]
      simp
      omega
    | false =>
      rw [Rc.clean_of hc]
      simp [Rc.eqB, Rc.covers, hr, h]
      rw [Bool.eq_iff_iff]
      simp
      omega

/-! ### lists of numbers, of rectangles -/
def is (l : List Int) : List DV := l.map (.int .i64)
def ints (l : List DV) : List Int := l.map fun | .int _ n => n | _ => 0
theorem ints_is (l : List Int) : ints (is l) = l := by simp [ints, is, Function.comp_def]
def Rc.cells (r : Rc) : List DV := [.int .i64 r.a, .int .i64 r.b, .int .i64 r.c, .int .i64 r.d]
def rcs (l : List Rc) : List DV := l.flatMap Rc.cells
theorem rcs_length (l : List Rc) : (rcs l).length = l.length * 4 := by
  unfold rcs
  induction l with
  | nil => rfl
  | cons r l ih => simp [ih, Rc.cells]; omega
theorem rcs_append (l m : List Rc) : rcs (l ++ m) = rcs l ++ rcs m := by simp [rcs]
theorem rcs_at : ∀ (l : List Rc) (i : Nat) (h : i < l.length), (rcs l)[i * 4]? = some (.int .i64 l[i].a) ∧ (rcs l)[i * 4 + 1]? = some (.int .i64 l[i].b) ∧ (rcs l)[i * 4 + 1 + 1]? = some (.int .i64 l[i].c) ∧ (rcs l)[i * 4 + 1 + 1 + 1]? = some (.int .i64 l[i].d)
  | r :: l, 0, _ => by simp [rcs, Rc.cells]
  | r :: l, i + 1, h => by
    have := rcs_at l i (by simpa using h)
    have e : rcs (r :: l) = Rc.cells r ++ rcs l := by simp [rcs]
    rw [e]
    simp only [List.getElem_cons_succ]
    have key : ∀ j, (Rc.cells r ++ rcs l)[(i + 1) * 4 + j]? = (rcs l)[i * 4 + j]? := fun j => by
      rw [List.getElem?_append_right (by simp [Rc.cells]; omega)]
      congr 1
      simp [Rc.cells]; omega
    exact ⟨by have := key 0; simp only [Nat.add_zero] at this; rw [this]; exact (rcs_at l i (by simpa using h)).1, by rw [key 1]; exact this.2.1, by rw [show (i + 1) * 4 + 1 + 1 = (i + 1) * 4 + 2 from rfl, key 2]; exact this.2.2.1, by rw [show (i + 1) * 4 + 1 + 1 + 1 = (i + 1) * 4 + 3 from rfl, key 3]; exact this.2.2.2⟩
def nOf : DV → Int
  | .int _ n => n
  | _ => 0
def toRcs : List DV → List Rc
  | a :: b :: c :: d :: r => ⟨nOf a, nOf b, nOf c, nOf d⟩ :: toRcs r
  | _ => []
theorem toRcs_rcs : ∀ l : List Rc, toRcs (rcs l) = l
  | [] => rfl
  | r :: l => by
    have e : rcs (r :: l) = .int .i64 r.a :: .int .i64 r.b :: .int .i64 r.c :: .int .i64 r.d :: rcs l := by simp [rcs, Rc.cells]
    rw [e, toRcs, toRcs_rcs l]
    rfl
/-- a list of rectangles, read out of memory -/
def IsRcs (n : Nat) (xs : List DV) : Prop := xs = rcs (toRcs xs) ∧ n = (toRcs xs).length
theorem isRcs_rcs (l : List Rc) : IsRcs l.length (rcs l) := ⟨by rw [toRcs_rcs], by rw [toRcs_rcs]⟩
theorem IsRcs.of {n : Nat} {xs : List DV} (h : IsRcs n xs) : ∃ l : List Rc, xs = rcs l ∧ n = l.length := ⟨_, h.1, h.2⟩
theorem rcs_nAt {l : List Rc} {i : Nat} (h : i < l.length) : nAt (rcs l) (i * 4) = l[i].a ∧ nAt (rcs l) (i * 4 + 1) = l[i].b ∧ nAt (rcs l) (i * 4 + 1 + 1) = l[i].c ∧ nAt (rcs l) (i * 4 + 1 + 1 + 1) = l[i].d := by
  obtain ⟨h1, h2, h3, h4⟩ := rcs_at l i h
  exact ⟨by simp [nAt, h1], by simp [nAt, h2], by simp [nAt, h3], by simp [nAt, h4]⟩
def hullL (l : List Rc) : Rc := l.foldl Rc.hull Rc.zero
theorem hullL_succ {l : List Rc} {k : Nat} (h : k < l.length) : hullL (l.take (k + 1)) = (hullL (l.take k)).hull l[k] := by
  unfold hullL
  rw [List.take_add_one, List.foldl_append, List.getElem?_eq_getElem h]
  rfl
/-- the pieces of a difference, in their order -/
def Rc.pieces (r i : Rc) : List Rc := [⟨r.a, r.b, r.c, i.b⟩, ⟨r.a, i.d, r.c, r.d⟩, ⟨r.a, i.b, i.a, i.d⟩, ⟨i.c, i.b, r.c, i.d⟩]
def filt (l : List Rc) : List Rc := l.filter fun p => !p.empty
def Rc.sub (r q : Rc) : List Rc := if r.empty then [] else if (r.inter q).empty then [r] else filt (Rc.pieces r (r.inter q))
theorem filt_succ {l : List Rc} {k : Nat} (h : k < l.length) : filt (l.take (k + 1)) = if l[k].empty then filt (l.take k) else filt (l.take k) ++ [l[k]] := by
  simp only [filt, List.take_add_one, List.getElem?_eq_getElem h, Option.toList_some, List.filter_append, List.filter_cons, List.filter_nil]
  cases l[k].empty <;> simp
theorem filt_le (l : List Rc) : (filt l).length ≤ l.length := List.length_filter_le _ _
/-- a rectangle out of four numbers -/
def genRc (x y z w : Int) : Rc :=
  let a := IntKind.wrap .i64 (modS x 12 - 6)
  let b := IntKind.wrap .i64 (modS y 12 - 6)
  ⟨a, b, if modS (IntKind.wrap .i64 (x.tdiv 12)) 30 = 29 then IntKind.wrap .i64 (IntKind.wrap .i64 (1073741824 + modS z 3) - 1) else IntKind.wrap .i64 (IntKind.wrap .i64 (a + modS z 8) - 1), IntKind.wrap .i64 (IntKind.wrap .i64 (b + modS w 8) - 1)⟩
theorem is_length (l : List Int) : (is l).length = l.length := by simp [is]
theorem is_at {l : List Int} {k : Nat} (h : k < l.length) : (is l)[k]? = some (.int .i64 l[k]) := by simp [is, h]
theorem nAt_is {l : List Int} {k : Nat} (h : k < l.length) : nAt (is l) k = l[k] := by simp [nAt, is_at h]
theorem wfs_iff : ∀ (xs : List DV), DV.wfs xs ↔ ∀ x ∈ xs, x.wf
  | [] => by simp [DV.wfs]
  | x :: xs => by simp only [DV.wfs, wfs_iff xs, List.mem_cons, forall_eq_or_imp]
theorem wf_is {l : List Int} (h : DV.wfs (is l)) {k : Nat} (hk : k < l.length) : -9223372036854775808 ≤ l[k] ∧ l[k] ≤ 9223372036854775807 := by
  have := (wfs_iff _).1 h (.int .i64 l[k]) (by simp [is])
  simp [DV.wf, IntKind.min, IntKind.max, IntKind.signed, IntKind.bits] at this
  exact this
theorem nAt_of {xs : List DV} {i : Nat} {k : IntKind} {n : Int} (h : xs[i]? = some (.int k n)) : nAt xs i = n := by simp [nAt, h]

end Go.Proofs.Ytoljdijpmnadpaa
