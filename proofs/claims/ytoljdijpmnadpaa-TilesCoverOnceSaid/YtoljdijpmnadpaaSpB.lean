/-
  Rectangles in plain words: points and areas.
-/
import Derived.Test.YtoljdijpmnadpaaSpA
namespace Go.Proofs.Ytoljdijpmnadpaa
open Go.RowKit
set_option linter.unusedVariables false
set_option linter.unusedSimpArgs false

theorem Rc.has_iff (r : Rc) (x y : Int) : r.has x y = true ↔ r.empty = false ∧ r.a ≤ x ∧ x < r.c ∧ r.b ≤ y ∧ y < r.d := by
  simp [Rc.has, and_assoc]
theorem Rc.clean_empty (r : Rc) : r.clean.empty = r.empty := by
  cases h : r.empty with
  | true => rw [Rc.clean_zero h]; rfl
  | false => rw [Rc.clean_of h]; exact h
theorem Rc.clean_has (r : Rc) (x y : Int) : r.clean.has x y = r.has x y := by
  cases h : r.empty with
  | true => rw [Rc.clean_zero h]; simp [Rc.has, h, Rc.zero_empty]
  | false => rw [Rc.clean_of h]
theorem Rc.inter_has (r q : Rc) (x y : Int) : (r.inter q).has x y = (r.has x y && q.has x y) := by
  unfold Rc.inter
  cases h1 : r.empty with
  | true => simp [Rc.has, h1, Rc.zero_empty]
  | false =>
    cases h2 : q.empty with
    | true => simp [Rc.has, h2, Rc.zero_empty]
    | false =>
      simp only [Bool.or_self, Bool.false_eq_true, if_false, Rc.clean_has]
      rw [Bool.eq_iff_iff, Bool.and_eq_true, Rc.has_iff, Rc.has_iff, Rc.has_iff, Rc.empty_iff]
      have g1 := (Rc.empty_iff r).1 h1
      have g2 := (Rc.empty_iff q).1 h2
      simp only [h1, h2, true_and]
      omega
theorem Rc.hull_has {r q : Rc} {x y : Int} (h : r.has x y = true ∨ q.has x y = true) : (r.hull q).has x y = true := by
  unfold Rc.hull
  cases h1 : q.empty with
  | true => rcases h with h | h
            · simpa using h
            · simp [Rc.has, h1] at h
  | false =>
    cases h2 : r.empty with
    | true => rcases h with h | h
              · simp [Rc.has, h2] at h
              · simpa using h
    | false =>
      simp only [Bool.false_eq_true, if_false]
      rw [Rc.has_iff, Rc.empty_iff]
      have g1 := (Rc.empty_iff q).1 h1
      have g2 := (Rc.empty_iff r).1 h2
      rw [Rc.has_iff, Rc.has_iff] at h
      simp only
      omega
theorem Rc.hull_covers (r q : Rc) : (r.hull q).covers r = true ∧ (r.hull q).covers q = true := by
  unfold Rc.hull
  cases h1 : q.empty with
  | true => cases h2 : r.empty <;> simp [Rc.covers, h1, h2]
  | false =>
    cases h2 : r.empty with
    | true => simp [Rc.covers, h1, h2]
    | false =>
      simp only [Bool.false_eq_true, if_false]
      have g1 := (Rc.empty_iff q).1 h1
      have g2 := (Rc.empty_iff r).1 h2
      have g3 : Rc.empty ⟨min r.a q.a, min r.b q.b, max r.c q.c, max r.d q.d⟩ = false := by rw [Rc.empty_iff]; simp only; omega
      simp only [Rc.covers, h1, h2, g3, Bool.false_or, Bool.not_false, Bool.true_and, Bool.and_eq_true, decide_eq_true_eq]
      omega
theorem Rc.covers_trans {r q p : Rc} (h1 : r.covers q = true) (h2 : q.covers p = true) : r.covers p = true := by
  unfold Rc.covers at *
  simp at *
  grind
theorem Rc.inter_covers (r q : Rc) : r.covers (r.inter q) = true := by
  unfold Rc.inter
  cases h1 : r.empty with
  | true => simp [Rc.covers, Rc.zero_empty]
  | false =>
    cases h2 : q.empty with
    | true => simp [Rc.covers, Rc.zero_empty]
    | false =>
      simp only [Bool.or_self, Bool.false_eq_true, if_false]
      generalize hm : (⟨max r.a q.a, max r.b q.b, min r.c q.c, min r.d q.d⟩ : Rc) = m
      cases h3 : m.empty with
      | true => rw [Rc.clean_zero h3]; simp [Rc.covers, Rc.zero_empty]
      | false =>
        rw [Rc.clean_of h3]
        have e1 : m.a = max r.a q.a := by rw [← hm]
        have e2 : m.b = max r.b q.b := by rw [← hm]
        have e3 : m.c = min r.c q.c := by rw [← hm]
        have e4 : m.d = min r.d q.d := by rw [← hm]
        simp only [Rc.covers, h1, h3, Bool.false_or, Bool.not_false, Bool.true_and, Bool.and_eq_true, decide_eq_true_eq]
        omega
/-- what an overlap that is not empty is -/
theorem Rc.inter_facts {r q : Rc} (h : (r.inter q).empty = false) : r.empty = false ∧ q.empty = false ∧ r.a ≤ (r.inter q).a ∧ r.b ≤ (r.inter q).b ∧ (r.inter q).c ≤ r.c ∧ (r.inter q).d ≤ r.d := by
  unfold Rc.inter at *
  cases h1 : r.empty with
  | true => simp [h1, Rc.zero_empty] at h
  | false =>
    cases h2 : q.empty with
    | true => simp [h2, Rc.zero_empty] at h
    | false =>
      simp only [h1, h2, Bool.or_self, Bool.false_eq_true, if_false] at h ⊢
      rw [Rc.clean_empty] at h
      rw [Rc.clean_of h]
      exact ⟨trivial, trivial, Int.le_max_left _ _, Int.le_max_left _ _, Int.min_le_left _ _, Int.min_le_left _ _⟩
def cnt (l : List Rc) (x y : Int) : Int := (l.map fun r => if r.has x y then (1 : Int) else 0).sum
def areas (l : List Rc) : Int := (l.map Rc.area).sum
theorem cnt_filt (x y : Int) : ∀ l : List Rc, cnt (filt l) x y = cnt l x y
  | [] => rfl
  | r :: l => by
    have ih := cnt_filt x y l
    unfold cnt filt at *
    cases h : r.empty with
    | true =>
      have : r.has x y = false := by simp [Rc.has, h]
      simp [h, this, ih]
    | false => simp [h, ih]
theorem areas_filt : ∀ l : List Rc, areas (filt l) = areas l
  | [] => rfl
  | r :: l => by
    have ih := areas_filt l
    unfold areas filt at *
    cases h : r.empty with
    | true =>
      have : r.area = 0 := by simp [Rc.area, h]
      simp [h, this, ih]
    | false => simp [h, ih]
theorem area_eq {r : Rc} (h : r.valid = true) (h1 : r.a ≤ r.c) (h2 : r.b ≤ r.d) : r.area = (r.c - r.a) * (r.d - r.b) := by
  unfold Rc.area
  cases he : r.empty with
  | false => rfl
  | true =>
    simp only [Rc.empty, h, Bool.not_true, Bool.false_or, Bool.or_eq_true, decide_eq_true_eq] at he
    rcases he with he | he
    · rw [show r.c - r.a = 0 by omega]; simp
    · rw [show r.d - r.b = 0 by omega]; simp
theorem Rc.sub_cnt (r q : Rc) (x y : Int) : cnt (Rc.sub r q) x y = if r.has x y && !q.has x y then 1 else 0 := by
  unfold Rc.sub
  cases h1 : r.empty with
  | true => simp [cnt, Rc.has, h1]
  | false =>
    have hi := Rc.inter_has r q x y
    cases h2 : (r.inter q).empty with
    | true =>
      have hn : (r.inter q).has x y = false := by simp [Rc.has, h2]
      rw [hn] at hi
      simp only [Bool.false_eq_true, if_false, if_true, cnt, List.map_cons, List.map_nil, List.sum_cons, List.sum_nil]
      cases h3 : r.has x y <;> cases h4 : q.has x y <;> simp [h3, h4] at hi ⊢
    | false =>
      simp only [Bool.false_eq_true, if_false]
      rw [cnt_filt]
      obtain ⟨f1, f2, f3, f4, f5, f6⟩ := Rc.inter_facts h2
      have hq : (r.has x y && !q.has x y) = (r.has x y && !(r.inter q).has x y) := by rw [hi]; cases r.has x y <;> simp
      rw [hq]
      generalize r.inter q = i at *
      have g1 := (Rc.empty_iff r).1 h1
      have g2 := (Rc.empty_iff i).1 h2
      have k : ∀ p : Rc, p.valid = true → p.has x y = (decide (p.a ≤ x) && decide (x < p.c) && decide (p.b ≤ y) && decide (y < p.d)) := by
        intro p hp
        rw [Bool.eq_iff_iff, Rc.has_iff]
        simp [Rc.empty, hp, and_assoc]
        omega
      have v : ∀ a b c d : Int, -1073741824 ≤ a → a ≤ 1073741824 → -1073741824 ≤ b → b ≤ 1073741824 → -1073741824 ≤ c → c ≤ 1073741824 → -1073741824 ≤ d → d ≤ 1073741824 → Rc.valid ⟨a, b, c, d⟩ = true := by
        intros; simp only [Rc.valid, okC, Bool.and_eq_true, decide_eq_true_eq]; omega
      have w1 := k r (v _ _ _ _ (by omega) (by omega) (by omega) (by omega) (by omega) (by omega) (by omega) (by omega))
      have w2 := k i (v _ _ _ _ (by omega) (by omega) (by omega) (by omega) (by omega) (by omega) (by omega) (by omega))
      have w3 := k ⟨r.a, r.b, r.c, i.b⟩ (v _ _ _ _ (by omega) (by omega) (by omega) (by omega) (by omega) (by omega) (by omega) (by omega))
      have w4 := k ⟨r.a, i.d, r.c, r.d⟩ (v _ _ _ _ (by omega) (by omega) (by omega) (by omega) (by omega) (by omega) (by omega) (by omega))
      have w5 := k ⟨r.a, i.b, i.a, i.d⟩ (v _ _ _ _ (by omega) (by omega) (by omega) (by omega) (by omega) (by omega) (by omega) (by omega))
      have w6 := k ⟨i.c, i.b, r.c, i.d⟩ (v _ _ _ _ (by omega) (by omega) (by omega) (by omega) (by omega) (by omega) (by omega) (by omega))
      simp only [cnt, Rc.pieces, List.map_cons, List.map_nil, List.sum_cons, List.sum_nil, w1, w2, w3, w4, w5, w6, Bool.and_eq_true, decide_eq_true_eq, Bool.not_eq_true', Bool.and_eq_false_iff, decide_eq_false_iff_not]
      clear k v w1 w2 w3 w4 w5 w6 hq hi h1 h2
      split <;> split <;> split <;> split <;> split <;> omega
theorem Rc.sub_areas (r q : Rc) : areas (Rc.sub r q) + (r.inter q).area = r.area := by
  unfold Rc.sub
  cases h1 : r.empty with
  | true =>
    have : r.inter q = Rc.zero := by simp [Rc.inter, h1]
    have h : r.area = 0 := by simp [Rc.area, h1]
    rw [this, h]
    rfl
  | false =>
    cases h2 : (r.inter q).empty with
    | true =>
      have : (r.inter q).area = 0 := by simp [Rc.area, h2]
      rw [this]
      simp [areas]
    | false =>
      simp only [Bool.false_eq_true, if_false]
      rw [areas_filt]
      obtain ⟨f1, f2, f3, f4, f5, f6⟩ := Rc.inter_facts h2
      generalize r.inter q = i at *
      have g1 := (Rc.empty_iff r).1 h1
      have g2 := (Rc.empty_iff i).1 h2
      have v : ∀ a b c d : Int, -1073741824 ≤ a → a ≤ 1073741824 → -1073741824 ≤ b → b ≤ 1073741824 → -1073741824 ≤ c → c ≤ 1073741824 → -1073741824 ≤ d → d ≤ 1073741824 → Rc.valid ⟨a, b, c, d⟩ = true := by
        intros; simp only [Rc.valid, okC, Bool.and_eq_true, decide_eq_true_eq]; omega
      have w1 := area_eq (r := r) (v _ _ _ _ (by omega) (by omega) (by omega) (by omega) (by omega) (by omega) (by omega) (by omega)) (by omega) (by omega)
      have w2 := area_eq (r := i) (v _ _ _ _ (by omega) (by omega) (by omega) (by omega) (by omega) (by omega) (by omega) (by omega)) (by omega) (by omega)
      have w3 := area_eq (r := ⟨r.a, r.b, r.c, i.b⟩) (v _ _ _ _ (by omega) (by omega) (by omega) (by omega) (by omega) (by omega) (by omega) (by omega)) (by simp only; omega) (by simp only; omega)
      have w4 := area_eq (r := ⟨r.a, i.d, r.c, r.d⟩) (v _ _ _ _ (by omega) (by omega) (by omega) (by omega) (by omega) (by omega) (by omega) (by omega)) (by simp only; omega) (by simp only; omega)
      have w5 := area_eq (r := ⟨r.a, i.b, i.a, i.d⟩) (v _ _ _ _ (by omega) (by omega) (by omega) (by omega) (by omega) (by omega) (by omega) (by omega)) (by simp only; omega) (by simp only; omega)
      have w6 := area_eq (r := ⟨i.c, i.b, r.c, i.d⟩) (v _ _ _ _ (by omega) (by omega) (by omega) (by omega) (by omega) (by omega) (by omega) (by omega)) (by simp only; omega) (by simp only; omega)
      simp only [areas, Rc.pieces, List.map_cons, List.map_nil, List.sum_cons, List.sum_nil, w1, w2, w3, w4, w5, w6]
      grind
theorem wrap_add64 (a b : Int) : IntKind.wrap .i64 (IntKind.wrap .i64 a + b) = IntKind.wrap .i64 (a + b) := by
  rw [IntKind.wrap_i64, IntKind.wrap_i64, IntKind.wrap_i64]; omega
theorem Rc.clean_cases (r : Rc) : r.clean.empty = true ∧ r.clean = Rc.zero ∨ r.clean.empty = false ∧ r.clean = r := by
  cases h : r.empty with
  | true => rw [Rc.clean_zero h]; exact .inl ⟨rfl, rfl⟩
  | false => rw [Rc.clean_of h]; exact .inr ⟨h, rfl⟩
theorem Rc.move_cases (r : Rc) (x y : Int) : (r.move x y).empty = true ∧ r.move x y = Rc.zero ∨ (r.move x y).empty = false ∧ r.empty = false ∧ r.move x y = ⟨r.a + x, r.b + y, r.c + x, r.d + y⟩ := by
  unfold Rc.move
  split
  · exact .inl ⟨rfl, rfl⟩
  · rename_i h
    simp only [Bool.or_eq_true, not_or, Bool.not_eq_true] at h
    rcases Rc.clean_cases ⟨r.a + x, r.b + y, r.c + x, r.d + y⟩ with h1 | h1
    · exact .inl h1
    · exact .inr ⟨h1.1, h.1.1.1.1, h1.2⟩
theorem Rc.move_back {r : Rc} {x y : Int} (hx : -2000000000 ≤ x) (hx' : x ≤ 2000000000) (hy : -2000000000 ≤ y) (hy' : y ≤ 2000000000) (h : (r.move x y).empty = false) :
    (r.move x y).move (-x) (-y) = r ∧ (r.move x y).area = r.area ∧ ∀ p q : Int, (r.move x y).has (p + x) (q + y) = r.has p q := by
  rcases Rc.move_cases r x y with h1 | ⟨_, h2, h3⟩
  · rw [h1.1] at h; cases h
  · rw [h3] at h ⊢
    refine ⟨?_, ?_, fun p q => ?_⟩
    · unfold Rc.move
      have e : (Rc.mk (r.a + x + -x) (r.b + y + -y) (r.c + x + -x) (r.d + y + -y)) = r := by
        obtain ⟨a, b, c, d⟩ := r
        simp only [Rc.mk.injEq]; omega
      simp only [h, e, Rc.clean_of h2]
      rw [if_neg]
      simp; omega
    · simp only [Rc.area, h, h2]
      rw [show r.c + x - (r.a + x) = r.c - r.a by omega, show r.d + y - (r.b + y) = r.d - r.b by omega]
    · rw [Bool.eq_iff_iff, Rc.has_iff, Rc.has_iff]
      simp only [h, h2, true_and]
      omega
theorem wrap_wrap64 (a : Int) : IntKind.wrap .i64 (IntKind.wrap .i64 a) = IntKind.wrap .i64 a := by
  rw [IntKind.wrap_i64, IntKind.wrap_i64]; omega
theorem Rc.area_in (r : Rc) : IntKind.wrap .i64 r.area = r.area := by rw [← Rc.area_wrap, wrap_wrap64]
theorem cnt_succ {l : List Rc} {k : Nat} (x y : Int) (h : k < l.length) : cnt (l.take (k + 1)) x y = cnt (l.take k) x y + if l[k].has x y then 1 else 0 := by
  simp only [cnt, List.take_add_one, List.getElem?_eq_getElem h, Option.toList_some, List.map_append, List.sum_append, List.map_cons, List.map_nil, List.sum_cons, List.sum_nil, Int.add_zero]
theorem areas_succ {l : List Rc} {k : Nat} (h : k < l.length) : areas (l.take (k + 1)) = areas (l.take k) + l[k].area := by
  simp only [areas, List.take_add_one, List.getElem?_eq_getElem h, Option.toList_some, List.map_append, List.sum_append, List.map_cons, List.map_nil, List.sum_cons, List.sum_nil, Int.add_zero]
theorem cnt_bd (x y : Int) : ∀ l : List Rc, 0 ≤ cnt l x y ∧ cnt l x y ≤ l.length
  | [] => by simp [cnt]
  | r :: l => by
    have := cnt_bd x y l
    simp only [cnt, List.map_cons, List.sum_cons, List.length_cons] at *
    split <;> omega
theorem Rc.sub_len (r q : Rc) : (Rc.sub r q).length ≤ 4 := by
  unfold Rc.sub
  split
  · simp
  · split
    · simp
    · exact filt_le _
theorem modS_64 {n k : Int} (hk : 1 ≤ k) (hk' : k ≤ 1000000) : ∃ u, modS n k = u ∧ 0 ≤ u ∧ u < k := ⟨_, rfl, by rw [modS_eq hk (by omega)]; exact Int.emod_nonneg _ (by omega), by rw [modS_eq hk (by omega)]; exact Int.emod_lt_of_pos _ (by omega)⟩
/-- a list of numbers' cells, four to a rectangle, is a list of rectangles -/
theorem isRcs_of : ∀ {n : Nat} {xs : List DV}, xs.length = n * 4 → (∀ (j : Nat) d, xs[j]? = some d → ∃ v, d = .int .i64 v) → IsRcs n xs
  | 0, xs, h, _ => by
    have : xs = [] := by cases xs with
      | nil => rfl
      | cons x xs => simp at h
    subst this
    exact ⟨rfl, rfl⟩
  | n + 1, xs, h, hx => by
    match xs, h, hx with
    | a :: b :: c :: d :: xs, h, hx =>
      obtain ⟨a, rfl⟩ := hx 0 _ rfl
      obtain ⟨b, rfl⟩ := hx 1 _ rfl
      obtain ⟨c, rfl⟩ := hx 2 _ rfl
      obtain ⟨d, rfl⟩ := hx 3 _ rfl
      have ih : IsRcs n xs := isRcs_of (by simp only [List.length_cons] at h; omega) fun j d hj => hx (j + 4) d hj
      obtain ⟨l, rfl, rfl⟩ := ih.of
      exact isRcs_rcs (⟨a, b, c, d⟩ :: l)
    | [], h, _ => simp at h
    | [_], h, _ => simp at h; omega
    | [_, _], h, _ => simp at h; omega
    | [_, _, _], h, _ => simp at h; omega
/-- a list of numbers -/
def IsIs (xs : List DV) : Prop := ∃ l, xs = is l
theorem isIs_of {xs : List DV} (hx : ∀ (j : Nat) d, xs[j]? = some d → ∃ v, d = .int .i64 v) : IsIs xs := by
  induction xs with
  | nil => exact ⟨[], rfl⟩
  | cons x xs ih =>
    obtain ⟨l, rfl⟩ := ih fun j d hj => hx (j + 1) d hj
    obtain ⟨v, rfl⟩ := hx 0 _ rfl
    exact ⟨v :: l, rfl⟩
end Go.Proofs.Ytoljdijpmnadpaa
