/-
  Orders and permutations in plain words.
-/
import Derived.Test.YtoljdijpmnadpaaSpA
namespace Go.Proofs.Ytoljdijpmnadpaa
open Go.RowKit
set_option linter.unusedVariables false
set_option linter.unusedSimpArgs false

def atS (l : List Int) (i : Int) : Int := if i < 0 then 0 else (l[i.toNat]?).getD 0
def upto (n : Nat) : List Int := (List.range n).map Int.ofNat
theorem upto_len (n : Nat) : (upto n).length = n := by simp [upto]
theorem upto_succ (n : Nat) : upto (n + 1) = upto n ++ [(n : Int)] := by simp [upto, List.range_succ]
/-- one step of drawing without laying back -/
def stp (l : List Int) (n : Nat) : Nat → List Int × List Int
  | 0 => (upto n, [])
  | i + 1 =>
    let s := stp l n i
    let k := (modS (atS l i) s.1.length).toNat
    (s.1.take k ++ s.1.drop (k + 1), s.2 ++ [(s.1[k]?).getD 0])
theorem is_take (l : List Int) (k : Nat) : (is l).take k = is (l.take k) := by simp [is, List.map_take]
theorem is_drop (l : List Int) (k : Nat) : (is l).drop k = is (l.drop k) := by simp [is, List.map_drop]
theorem is_append (l m : List Int) : is l ++ is m = is (l ++ m) := by simp [is]
theorem fill_step {k N : Nat} (h : k < N) : (is (upto k) ++ List.replicate (N - k) (DV.int .i64 0)).set k (.int .i64 k) = is (upto (k + 1)) ++ List.replicate (N - (k + 1)) (DV.int .i64 0) := by
  have hl : (is (upto k)).length = k := by rw [is_length, upto_len]
  rw [List.set_append_right _ _ (by omega), hl, Nat.sub_self, show N - k = (N - (k + 1)) + 1 by omega, List.replicate_succ, List.set_cons_zero, upto_succ, ← is_append]
  simp [is]
def permL (l : List Int) (n : Int) : List Int := if l.length = 0 ∨ 64 < n then [] else (stp l n.toNat n.toNat).2
theorem modS_lt {v : Int} {m : Nat} (hm : 1 ≤ m) (hm' : m ≤ 1000000) : 0 ≤ modS v m ∧ (modS v m).toNat < m := by
  rw [modS_eq (by omega) (by omega)]
  have := Int.emod_nonneg v (show (m : Int) ≠ 0 by omega)
  have := Int.emod_lt_of_pos v (show 0 < (m : Int) by omega)
  omega
theorem stp_len (l : List Int) {n : Nat} (hn : n ≤ 64) : ∀ i, i ≤ n → (stp l n i).1.length = n - i ∧ (stp l n i).2.length = i
  | 0, _ => by simp [stp, upto_len]
  | i + 1, h => by
    obtain ⟨h1, h2⟩ := stp_len l hn i (by omega)
    have hk := modS_lt (v := atS l i) (m := (stp l n i).1.length) (by omega) (by omega)
    simp only [stp, List.length_append, List.length_take, List.length_drop, List.length_cons, List.length_nil]
    omega
theorem stp_perm (l : List Int) {n : Nat} (hn : n ≤ 64) : ∀ i, i ≤ n → ((stp l n i).2 ++ (stp l n i).1).Perm (upto n)
  | 0, _ => by simp [stp]
  | i + 1, h => by
    obtain ⟨h1, h2⟩ := stp_len l hn i (by omega)
    have hk := modS_lt (v := atS l i) (m := (stp l n i).1.length) (by omega) (by omega)
    have ih := stp_perm l hn i (by omega)
    simp only [stp]
    generalize (stp l n i).1 = r at *
    generalize (stp l n i).2 = o at *
    generalize (modS (atS l i) r.length).toNat = k at *
    have e : r = r.take k ++ r[k] :: r.drop (k + 1) := by rw [← List.drop_eq_getElem_cons hk.2, List.take_append_drop]
    rw [List.getElem?_eq_getElem hk.2, Option.getD_some, List.append_assoc]
    refine List.Perm.trans ?_ ih
    refine List.Perm.append_left o ?_
    conv => rhs; rw [e]
    simp only [List.singleton_append]
    exact List.perm_middle.symm
theorem permL_perm {l : List Int} {n : Int} (h : l.length ≠ 0) (hn : n ≤ 64) : (permL l n).Perm (upto n.toNat) := by
  have h1 := stp_perm l (n := n.toNat) (by omega) n.toNat (Nat.le_refl _)
  have h2 := stp_len l (n := n.toNat) (by omega) n.toNat (Nat.le_refl _)
  have e : (stp l n.toNat n.toNat).1 = [] := List.eq_nil_of_length_eq_zero (by omega)
  rw [e, List.append_nil] at h1
  unfold permL
  rw [if_neg (by omega)]
  exact h1
/-! ### orders -/
def seqL (l : List Int) (n : Int) : List Int := if l.length = 0 then upto n.toNat else l
def goodP (s : List Int) (n : Int) : Prop := (∀ v ∈ s, 0 ≤ v ∧ v < n) ∧ s.Nodup
instance (s : List Int) (n : Int) : Decidable (goodP s n) := by unfold goodP; infer_instance
def orderOk (l : List Int) (n : Int) : Bool := decide (0 ≤ n) && decide (n ≤ 16777216) && (decide (l.length = 0) || decide ((l.length : Int) = n)) && decide (goodP (seqL l n) n)
def orderL (l : List Int) (n : Int) : List Int := if orderOk l n then seqL l n else []
/-- which numbers have been seen -/
def seenL (s : List Int) (N : Nat) : List DV := (List.range N).map fun v => .bool (s.contains (Int.ofNat v))
theorem eq_loopI {l l' : List Int} (he : l.length = l'.length) (hm : l.length ≤ 2 ^ 63 - 1) {B : Bool} (hB : B = decide (l = l')) :
    (∃ k, (k ≤ l.length ∧ List.take k l = List.take k l') ∧ (0 : Int) = ((k : Nat) : Int)) ∧
        ∀ (k : Nat),
          k ≤ l.length ∧ List.take k l = List.take k l' →
            ((k : Int) < (l.length : Int) →
                (0 ≤ (k : Int) ∧ (k : Int) < (l.length : Int) ∧ k * 1 < l.length) ∧
                  (is l)[k * 1]? = some (DV.int IntKind.i64 (nAt (is l) (k * 1))) ∧
                    (0 ≤ (k : Int) ∧ (k : Int) < (l'.length : Int) ∧ k * 1 < l'.length) ∧
                      (is l')[k * 1]? = some (DV.int IntKind.i64 (nAt (is l') (k * 1))) ∧
                        ((nAt (is l) (k * 1) != nAt (is l') (k * 1)) = true → false = B) ∧
                          ((nAt (is l) (k * 1) != nAt (is l') (k * 1)) = false →
                            ∃ k' : Nat,
                              (k' ≤ l.length ∧ List.take k' l = List.take k' l') ∧
                                l.length - k' < l.length - k ∧ IntKind.i64.wrap ((k : Int) + 1) = (k' : Int))) ∧
              (¬(k : Int) < (l.length : Int) → true = B) := by
  subst hB
  refine ⟨⟨0, ⟨by omega, rfl⟩, rfl⟩, fun k hk => ⟨fun hlt => ?_, fun hge => ?_⟩⟩
  · have h : k < l.length := by omega
    have h' : k < l'.length := by omega
    have hw : IntKind.wrap .i64 ((k : Int) + 1) = ((k + 1 : Nat) : Int) := by rw [IntWalk.i64_in _ ⟨by omega, by omega⟩]; omega
    simp only [Nat.mul_one, nAt_is h, nAt_is h']
    refine ⟨by omega, is_at h, by omega, is_at h', fun hd => ?_, fun hd => ?_⟩
    · have : l ≠ l' := fun e => by subst e; simp at hd
      simp [this]
    · refine ⟨k + 1, ⟨by omega, ?_⟩, by omega, hw⟩
      have hr : l[k] = l'[k] := by simpa using hd
      rw [List.take_add_one, List.take_add_one, hk.2, List.getElem?_eq_getElem h, List.getElem?_eq_getElem h', hr]
  · have hkl : k = l.length := by omega
    have := hk.2
    rw [List.take_of_length_le (by omega), List.take_of_length_le (by omega)] at this
    simp [this]
theorem seenL_len (s : List Int) (N : Nat) : (seenL s N).length = N := by simp [seenL]
theorem seenL_at (s : List Int) {N : Nat} {v : Int} (h0 : 0 ≤ v) (h1 : v < N) : (seenL s N)[v.toNat]? = some (.bool (s.contains v)) := by
  have e : Int.ofNat v.toNat = v := by simp; omega
  simp only [seenL, List.getElem?_map, List.getElem?_range (show v.toNat < N by omega), Option.map_some, e]
theorem seenL_bAt (s : List Int) {N : Nat} {v : Int} (h0 : 0 ≤ v) (h1 : v < N) : bAt (seenL s N) v.toNat = s.contains v := by
  simp only [bAt, seenL_at s h0 h1]
theorem seenL_set (s : List Int) {N : Nat} {v : Int} (h0 : 0 ≤ v) : (seenL s N).set v.toNat (.bool true) = seenL (s ++ [v]) N := by
  apply List.ext_getElem?
  intro i
  rw [List.getElem?_set]
  by_cases hi : i < N
  · simp only [seenL, List.length_map, List.length_range, List.getElem?_map, List.getElem?_range hi, Option.map_some]
    by_cases e : v.toNat = i
    · have e2 : Int.ofNat i = v := by simp; omega
      rw [if_pos e, if_pos (by omega), e2]
      simp
    · have e2 : ¬ Int.ofNat i = v := by simp; omega
      rw [if_neg e]
      congr 2
      rw [Bool.eq_iff_iff]
      simp only [List.contains_iff_mem, List.mem_append, List.mem_singleton, e2, or_false]
  · have n1 : ∀ t : List Int, (seenL t N)[i]? = none := fun t => List.getElem?_eq_none (by rw [seenL_len]; omega)
    rw [n1, n1]
    split
    · split
      · rw [seenL_len] at *; omega
      · rfl
    · rfl
theorem take_snoc {S : List Int} {k : Nat} (hk : k < S.length) : S.take (k + 1) = S.take k ++ [S[k]] := by
  rw [List.take_add_one, List.getElem?_eq_getElem hk, Option.toList_some]
theorem good_snoc {S : List Int} {m : Int} {k : Nat} (hk : k < S.length) (hg : goodP (S.take k) m) (h0 : 0 ≤ S[k]) (h1 : S[k] < m) (hc : (S.take k).contains S[k] = false) : goodP (S.take (k + 1)) m := by
  rw [take_snoc hk]
  refine ⟨fun v hv => ?_, ?_⟩
  · rcases List.mem_append.1 hv with hv | hv
    · exact hg.1 v hv
    · rw [List.mem_singleton.1 hv]; exact ⟨h0, h1⟩
  · rw [List.nodup_append]
    refine ⟨hg.2, by simp, fun a ha b hb e => ?_⟩
    rw [List.mem_singleton] at hb
    subst hb e
    have : (S.take k).contains S[k] = true := by simpa using ha
    rw [hc] at this; cases this
theorem bad_of {S : List Int} {m : Int} {k : Nat} (hk : k < S.length) (h : S[k] < 0 ∨ m ≤ S[k] ∨ (S.take k).contains S[k] = true) : ¬ goodP S m := by
  rintro ⟨g1, g2⟩
  have := g1 S[k] (List.getElem_mem hk)
  rcases h with h | h | h
  · omega
  · omega
  · have hm : S[k] ∈ S.take k := by simpa using h
    have e : S = S.take (k + 1) ++ S.drop (k + 1) := (List.take_append_drop _ _).symm
    rw [e, take_snoc hk, List.append_assoc, List.nodup_append] at g2
    exact g2.2.2 _ hm _ (List.mem_append_left _ (List.mem_singleton.2 rfl)) rfl
theorem ord_round {S : List Int} {m : Int} {k : Nat} (h0 : 0 ≤ m) (hM : m ≤ 16777216) (hS : S.length = m.toNat) (hk : k < S.length) (hg : goodP (S.take k) m) {v : Int} (hv : v = S[k]) {Bad : Prop} (hBad : ¬ goodP S m → Bad) :
    (¬ v < 0 → (¬ v ≥ m → (0 ≤ v ∧ v < (m.toNat : Int)) ∧ (seenL (S.take k) m.toNat)[v.toNat * 1]? = some (.bool (bAt (seenL (S.take k) m.toNat) (v.toNat * 1))) ∧
      (bAt (seenL (S.take k) m.toNat) (v.toNat * 1) = true → Bad) ∧
      (bAt (seenL (S.take k) m.toNat) (v.toNat * 1) = false → (0 ≤ v ∧ v < (m.toNat : Int)) ∧ v.toNat * 1 + 1 ≤ (seenL (S.take k) m.toNat).length ∧ appVc 1 8 k 1 (is (S.take k)) [.int .i64 v] ∧
        ∃ k' : Nat, (k' ≤ m.toNat ∧ goodP (S.take k') m) ∧ m.toNat - k' < m.toNat - k ∧ (k + 1 = k' ∧ IntKind.wrap .i64 ((k : Int) + 1) = (k' : Int)) ∧ (seenL (S.take k) m.toNat).set (v.toNat * 1) (.bool true) = seenL (S.take k') m.toNat ∧ is (S.take k) ++ [.int .i64 v] = is (S.take k'))) ∧
      (v ≥ m → Bad)) ∧ (v < 0 → Bad) := by
  subst hv
  refine ⟨fun a => ⟨fun b => ?_, fun b => hBad (bad_of hk (.inr (.inl b)))⟩, fun a => hBad (bad_of hk (.inl a))⟩
  have hlt : S[k] < (m.toNat : Int) := by omega
  simp only [Nat.mul_one, seenL_bAt (S.take k) (show 0 ≤ S[k] by omega) hlt, seenL_at (S.take k) (show 0 ≤ S[k] by omega) hlt, seenL_set (S.take k) (show 0 ≤ S[k] by omega), seenL_len]
  refine ⟨⟨by omega, hlt⟩, trivial, fun c => hBad (bad_of hk (.inr (.inr c))), fun c => ⟨⟨by omega, hlt⟩, by omega, ⟨?_, rfl, by unfold maxLen; omega, by omega⟩, k + 1, ⟨by omega, good_snoc hk hg (by omega) (by omega) c⟩, by omega, ⟨rfl, ?_⟩, by rw [take_snoc hk], by rw [take_snoc hk, ← is_append]; rfl⟩⟩
  · rw [is_length, List.length_take]; omega
  · rw [IntWalk.i64_in _ ⟨by omega, by omega⟩]; omega
theorem seqL_len {l : List Int} {m : Int} (h : l.length = 0 ∨ (l.length : Int) = m) : (seqL l m).length = m.toNat := by
  unfold seqL
  split
  · exact upto_len _
  · rcases h with h | h <;> omega
theorem ord_yes {l : List Int} {m : Int} (h0 : 0 ≤ m) (hM : m ≤ 16777216) (h : l.length = 0 ∨ (l.length : Int) = m) (hg : goodP (seqL l m) m) : orderOk l m = true ∧ orderL l m = seqL l m := by
  have e : orderOk l m = true := by simp [orderOk, h0, hM, hg]; rcases h with h | h <;> simp_all
  exact ⟨e, by simp [orderL, e]⟩
theorem ord_no {l : List Int} {m : Int} (h : m < 0 ∨ 16777216 < m ∨ (l.length ≠ 0 ∧ (l.length : Int) ≠ m) ∨ ¬ goodP (seqL l m) m) : orderOk l m = false ∧ orderL l m = [] := by
  have e : orderOk l m = false := by
    cases ho : orderOk l m with
    | false => rfl
    | true =>
      simp only [orderOk, Bool.and_eq_true, Bool.or_eq_true, decide_eq_true_eq] at ho
      obtain ⟨⟨⟨a, b⟩, c⟩, d⟩ := ho
      rcases h with h | h | h | h
      · omega
      · omega
      · rcases c with c | c
        · exact absurd c h.1
        · exact absurd c h.2
      · exact absurd d h
  exact ⟨e, by simp [orderL, e]⟩
/-- the order under way: what is written, then noughts -/
def fillL (S : List Int) (k : Nat) : List DV := is (S.take k) ++ List.replicate (S.length - k) (DV.int .i64 0)
theorem fillL_len {S : List Int} {k : Nat} (h : k ≤ S.length) : (fillL S k).length = S.length := by
  unfold fillL
  rw [List.length_append, is_length, List.length_take, List.length_replicate]; omega
theorem fillL_set {S : List Int} {k : Nat} (h : k < S.length) {v : Int} (hv : v = S[k]) : (fillL S k).set k (.int .i64 v) = fillL S (k + 1) := by
  subst hv
  have hl : (is (S.take k)).length = k := by rw [is_length, List.length_take]; omega
  unfold fillL
  rw [List.set_append_right _ _ (by omega), hl, Nat.sub_self, show S.length - k = (S.length - (k + 1)) + 1 by omega, List.replicate_succ, List.set_cons_zero, take_snoc h, ← is_append]
  simp [is]
theorem fillL_at {S : List Int} {k : Nat} (h : k < S.length) : (fillL S (k + 1))[k]? = some (.int .i64 S[k]) := by
  unfold fillL
  have hl : k < (S.take (k + 1)).length := by rw [List.length_take]; omega
  rw [List.getElem?_append_left (by rw [is_length]; exact hl), is_at hl]
  simp
theorem fillL_nAt {S : List Int} {k : Nat} (h : k < S.length) : nAt (fillL S (k + 1)) k = S[k] := by simp only [nAt, fillL_at h]
theorem fillL_all (S : List Int) : fillL S S.length = is S := by simp [fillL]
theorem isI_of {n : Nat} {xs : List DV} (hn : xs.length = n) (hx : ∀ (j : Nat) d, xs[j]? = some d → ∃ v, d = .int .i64 v) : xs = is (ints xs) ∧ n = xs.length := by
  refine ⟨?_, hn.symm⟩
  clear hn
  induction xs with
  | nil => rfl
  | cons x xs ih =>
    obtain ⟨v, rfl⟩ := hx 0 _ rfl
    have := ih fun j d hj => hx (j + 1) d hj
    simp only [is, ints, List.map_cons] at this ⊢
    rw [← this]
theorem good_upto {n : Int} (h : 0 ≤ n) : goodP (upto n.toNat) n := by
  refine ⟨fun v hv => ?_, ?_⟩
  · simp only [upto, List.mem_map, List.mem_range] at hv
    obtain ⟨i, hi, rfl⟩ := hv
    simp; omega
  · exact List.Pairwise.map Int.ofNat (fun a b hab e => hab (Int.ofNat.inj e)) List.nodup_range
theorem good_perm {s t : List Int} {n : Int} (hp : s.Perm t) (h : goodP t n) : goodP s n :=
  ⟨fun v hv => h.1 v (hp.mem_iff.1 hv), hp.nodup_iff.2 h.2⟩
theorem perm_ok {l : List Int} {n : Int} (h0 : 0 ≤ n) (h1 : n ≤ 64) : orderOk (permL l n) n = true ∧ orderL (permL l n) n = seqL (permL l n) n := by
  by_cases hl : l.length = 0
  · have e : permL l n = [] := by simp [permL, hl]
    rw [e]
    exact ord_yes h0 (by omega) (.inl rfl) (by simpa [seqL] using good_upto h0)
  · have hp := permL_perm hl h1
    have hlen := hp.length_eq
    rw [upto_len] at hlen
    refine ord_yes h0 (by omega) (.inr (by omega)) ?_
    unfold seqL
    split
    · exact good_upto h0
    · exact good_perm hp (good_upto h0)
end Go.Proofs.Ytoljdijpmnadpaa
