/-
  Part 4 of what TreeEndsNest rests on.
-/
import Derived.Test.YtaaealkgbklmeaaTreeEndsNestZ3
import Derived.Test.YtaaealkgbklmeaaRows
import Derived.JoinedOf
import Derived.KernelRfl
/-
  Lists of operations and forests: what is built of the operations of a forest.
-/
namespace Go.Proofs.Ytaaealkgbklmeaa
open Go.RowKit
set_option linter.unusedVariables false
set_option linter.unusedSimpArgs false
def unflOk : Fo → List Fo → Prop
  | f, fs => f.ok ∧ ∀ g ∈ fs, g.ok
/-- operations whose ends are found are those of a forest -/
theorem runE_parse : ∀ (l : List Oq) (i : Nat) (out op : List Int), (∀ o ∈ l, o.kind = 3 → o = popO) → (runE l i out op).2 = 0 → ∃ (f : Fo) (fs : List Fo), unflOk f fs ∧ fs.length = op.length ∧ l = unfl f fs
  | [], i, out, op, hp, h => by
    rw [runE] at h
    split at h
    · rename_i e
      exact ⟨.nil, [], ⟨trivial, fun g hg => by cases hg⟩, by simp [e], rfl⟩
    · cases h
  | o :: l, i, out, op, hp, h => by
    have hp' : ∀ o ∈ l, o.kind = 3 → o = popO := fun o ho => hp o (List.mem_cons_of_mem _ ho)
    rw [runE] at h
    split at h
    · rename_i h1
      obtain ⟨f, fs, hk, hl, e⟩ := runE_parse l _ _ _ hp' h
      exact ⟨.draw o f, fs, ⟨⟨h1, hk.1⟩, hk.2⟩, hl, by rw [unfl_draw, e]⟩
    · split at h
      · rename_i h1 h2
        obtain ⟨f, fs, hk, hl, e⟩ := runE_parse l _ _ _ hp' h
        cases fs with
        | nil => simp at hl
        | cons g fs => exact ⟨.grp o f g, fs, ⟨⟨h2, hk.1, hk.2 g (List.mem_cons_self ..)⟩, fun g' hg => hk.2 g' (List.mem_cons_of_mem _ hg)⟩, by simpa using hl, by rw [unfl_grp, e]; rfl⟩
      · split at h
        · rename_i h1 h2 h3
          split at h
          · cases h
          · rename_i h4
            obtain ⟨f, fs, hk, hl, e⟩ := runE_parse l _ _ _ hp' h
            have hol : 0 < op.length := List.length_pos_iff.2 h4
            refine ⟨.nil, f :: fs, ⟨trivial, fun g hg => ?_⟩, ?_, ?_⟩
            · rcases List.mem_cons.1 hg with rfl | hg
              · exact hk.1
              · exact hk.2 g hg
            · rw [List.length_cons, hl, List.length_dropLast]; omega
            · rw [hp o (List.mem_cons_self ..) h3, e]; rfl
        · cases h
theorem ends_parse {l : List Oq} (hp : ∀ o ∈ l, o.kind = 3 → o = popO) (h : (endsS l).2 = 0) : ∃ f : Fo, f.ok ∧ l = f.flat := by
  obtain ⟨f, fs, hk, hl, e⟩ := runE_parse l 0 _ [] hp h
  have : fs = [] := List.length_eq_zero_iff.1 (by simpa using hl)
  subst this
  exact ⟨f, hk.1, e⟩
theorem opL_in : ∀ (l : List Int) (op : Int), ∀ o ∈ (genL l op).1, ∃ n op', o = opL n op'
  | [], op, o, h => by cases h
  | n :: l, op, o, h => by
    simp only [genL] at h
    rcases List.mem_cons.1 h with rfl | h
    · exact ⟨n, op, rfl⟩
    · exact opL_in l _ o h
theorem listL_pops (l : List Int) (c : Bool) : ∀ o ∈ listL l c, o.kind = 3 → o = popO := fun o ho hk => by
  unfold listL at ho
  rcases List.mem_append.1 ho with ho | ho
  · obtain ⟨n, op, rfl⟩ := opL_in _ _ o ho
    exact opL_pop hk
  · split at ho
    · exact List.eq_of_mem_replicate ho
    · cases ho
theorem flat_at {A B : List Oq} {o : Oq} {p : Nat} (h : p = A.length) : (A ++ o :: B)[p]? = some o := by subst h; simp
/-- what is neither the begin nor the end of a group ends at itself; what begins one ends at its Pop -/
theorem endN_kind : ∀ (f : Fo) (n p : Nat), f.ok → n ≤ p → p < n + f.size → ∃ o, f.flat[p - n]? = some o ∧ (o.kind ≠ 2 → endN n f p = p) ∧ (o.kind = 2 → f.flat[endN n f p - n]? = some popO)
  | .nil, n, p, hk, h1, h2 => by simp [Fo.size] at h2; omega
  | .draw o r, n, p, hk, h1, h2 => by
    by_cases e : p = n
    · subst e
      refine ⟨o, by simp [Fo.flat], fun _ => by simp [endN], fun h => ?_⟩
      rw [hk.1] at h
      exact absurd h (by decide)
    · obtain ⟨q, a1, a2, a3⟩ := endN_kind r (n + 1) p hk.2 (by omega) (by simp only [Fo.size] at h2; omega)
      have hin := endN_in r (n + 1) p (by omega) (by simp only [Fo.size] at h2; omega)
      have e1 : ∀ x, n + 1 ≤ x → (Fo.draw o r).flat[x - n]? = r.flat[x - (n + 1)]? := fun x hx => by
        rw [Fo.flat, show x - n = (x - (n + 1)) + 1 by omega, List.getElem?_cons_succ]
      refine ⟨q, by rw [e1 p (by omega)]; exact a1, ?_, ?_⟩
      · rw [endN, if_neg e]; exact a2
      · rw [endN, if_neg e]
        intro h
        rw [e1 _ (by omega)]
        exact a3 h
  | .grp o k r, n, p, hk, h1, h2 => by
    have hs : (k.flat).length = k.size := Fo.flat_len k
    simp only [Fo.size] at h2
    have epop : ∀ x, x = n + k.size + 1 → (Fo.grp o k r).flat[x - n]? = some popO := fun x hx => by
      rw [Fo.flat, show x - n = (x - (n + 1)) + 1 by omega, List.getElem?_cons_succ]
      exact flat_at (by omega)
    by_cases e : p = n
    · subst e
      refine ⟨o, by simp [Fo.flat], fun h => absurd hk.1 h, fun _ => ?_⟩
      rw [endN, if_pos (.inl rfl)]
      exact epop _ rfl
    · by_cases e2 : p = n + k.size + 1
      · refine ⟨popO, epop p e2, fun _ => ?_, fun h => absurd h (by decide)⟩
        rw [endN, if_pos (.inr e2), e2]
      · by_cases c : p ≤ n + k.size
        · obtain ⟨q, a1, a2, a3⟩ := endN_kind k (n + 1) p hk.2.1 (by omega) (by omega)
          have hin := endN_in k (n + 1) p (by omega) (by omega)
          have e1 : ∀ x, n + 1 ≤ x → x < n + 1 + k.size → (Fo.grp o k r).flat[x - n]? = k.flat[x - (n + 1)]? := fun x hx hx2 => by
            rw [Fo.flat, show x - n = (x - (n + 1)) + 1 by omega, List.getElem?_cons_succ, List.getElem?_append_left (by omega)]
          refine ⟨q, by rw [e1 p (by omega) (by omega)]; exact a1, ?_, ?_⟩
          · rw [endN, if_neg (by omega), if_pos c]; exact a2
          · rw [endN, if_neg (by omega), if_pos c]
            intro h
            rw [e1 _ (by omega) (by omega)]
            exact a3 h
        · obtain ⟨q, a1, a2, a3⟩ := endN_kind r (n + k.size + 2) p hk.2.2 (by omega) (by omega)
          have hin := endN_in r (n + k.size + 2) p (by omega) (by omega)
          have e1 : ∀ x, n + k.size + 2 ≤ x → (Fo.grp o k r).flat[x - n]? = r.flat[x - (n + k.size + 2)]? := fun x hx => by
            rw [Fo.flat, show x - n = (x - (n + 1)) + 1 by omega, List.getElem?_cons_succ, List.getElem?_append_right (by omega), show x - (n + 1) - k.flat.length = (x - (n + k.size + 2)) + 1 by omega, List.getElem?_cons_succ]
          refine ⟨q, by rw [e1 p (by omega)]; exact a1, ?_, ?_⟩
          · rw [endN, if_neg (by omega), if_neg c]; exact a2
          · rw [endN, if_neg (by omega), if_neg c]
            intro h
            rw [e1 _ (by omega)]
            exact a3 h
/-- what the ends of operations are like -/
theorem ends_facts {l : List Oq} (hp : ∀ o ∈ l, o.kind = 3 → o = popO) (h : (endsS l).2 = 0) : (endsS l).1.length = l.length ∧ ∃ e : Nat → Nat, (∀ a, a < l.length → (endsS l).1[a]? = some ((e a : Nat) : Int) ∧ a ≤ e a ∧ e a < l.length ∧ (∀ o, l[a]? = some o → (o.kind ≠ 2 → e a = a) ∧ (o.kind = 2 → ∃ q, l[e a]? = some q ∧ q.kind = 3))) ∧ ∀ a b, a < l.length → a < b → b ≤ e a → e b ≤ e a := by
  obtain ⟨f, hk, rfl⟩ := ends_parse hp h
  have hs := Fo.flat_len f
  rw [endsS_fo hk]
  refine ⟨by simp only; rw [endF_len, hs], endN 0 f, fun a ha => ?_, fun a b ha hab hb => endN_nest f 0 a b (by omega) (by omega) hab hb⟩
  have hin := endN_in f 0 a (by omega) (by omega)
  obtain ⟨o, h1, h2, h3⟩ := endN_kind f 0 a hk (by omega) (by omega)
  refine ⟨?_, hin.1, by omega, fun o' ho' => ?_⟩
  · simp only [endF]
    rw [List.getElem?_map, List.getElem?_range (by omega), Option.map_some, Nat.zero_add]
  · rw [Nat.sub_zero] at h1
    rw [h1] at ho'
    injection ho' with ho'
    subst ho'
    exact ⟨h2, fun h => ⟨popO, by simpa using h3 h, rfl⟩⟩
end Go.Proofs.Ytaaealkgbklmeaa
/-
  TreeEndsNest answers true, whatever it is handed.
-/
namespace Go.Proofs.Ytaaealkgbklmeaa
open Go.RowKit
set_option linter.unusedVariables false
set_option linter.unusedSimpArgs false
attribute [local irreducible] Ans AnsO AnsG AnsN AnsI
set_option maxRecDepth 4000
theorem modS_64 {n k : Int} (hk : 1 ≤ k) (hk' : k ≤ 1000000) : ∃ u, modS n k = u ∧ 0 ≤ u ∧ u < k := ⟨_, rfl, by rw [modS_eq hk (by omega)]; exact Int.emod_nonneg _ (by omega), by rw [modS_eq hk (by omega)]; exact Int.emod_lt_of_pos _ (by omega)⟩
theorem runE_bad : ∀ (l : List Oq) (i : Nat) (out op : List Int), (runE l i out op).2 ≠ 0 → (runE l i out op).1 = []
  | [], i, out, op, h => by
    rw [runE] at h ⊢
    split
    · rename_i e; rw [if_pos e] at h; exact absurd rfl h
    · rfl
  | o :: l, i, out, op, h => by
    rw [runE] at h ⊢
    split
    · rename_i e; rw [if_pos e] at h; exact runE_bad l _ _ _ h
    · rename_i e; rw [if_neg e] at h
      split
      · rename_i e2; rw [if_pos e2] at h; exact runE_bad l _ _ _ h
      · rename_i e2; rw [if_neg e2] at h
        split
        · rename_i e3; rw [if_pos e3] at h
          split
          · rfl
          · rename_i e4; rw [if_neg e4] at h; exact runE_bad l _ _ _ h
        · rfl
theorem endsS_bad {l : List Oq} (h : ¬(endsS l).2 = 0) : (endsS l).1 = [] := runE_bad l _ _ _ h
def gamTreeEndsNest : Gam where
 pure := fun f xs =>
  if f = 7 then (match xs with | [.d (.sl pn pxs), .d (.bool c)] => some (RV.d (DV.sl ((listL (ints (pxs)) c).length) (ops (listL (ints (pxs)) c)))) | _ => none) else
  if f = 16 then (match xs with | [.d (.sl pn pxs)] => some (RV.tup [RV.d (DV.sl ((endsS (toOps (pxs))).1.length) (is (endsS (toOps (pxs))).1)), RV.d (DV.int .i64 ((endsS (toOps (pxs))).2))]) | _ => none) else
  if f = 9 then (match xs with | [] => some (RV.d (DV.bool true)) | _ => none) else
  if f = 19 then (match xs with | [.d (.int _ n), .d (.int _ k)] => some (RV.d (DV.int .i64 (modS n k))) | _ => none) else
  if f = 19 then (match xs with | [.d (.int _ n), .d (.int _ k)] => some (RV.d (DV.int .i64 (modS n k))) | _ => none) else
  if f = 9 then (match xs with | [] => some (RV.d (DV.bool true)) | _ => none) else
  none
 modes := fun f =>
  none
 proc := fun f xs bs =>
  none
 iter := fun f cs =>
  none
def L21_TreeEndsNest_ann (pn : Nat) (pxs : List DV) (i : Int) (k : Int) : Ann := Ann.leaf
theorem L21_TreeEndsNest_vc (pn : Nat) (pxs : List DV) (i : Int) (k : Int) : vcg Try.prog gamTreeEndsNest 126 (bodyOf Try.f6) (L21_TreeEndsNest_ann pn pxs i k) kn0 (start [RV.d (DV.sl pn pxs), RV.d (DV.int .i64 i), RV.d (DV.int .i64 k)]) (post Try.prog Try.f6.results.toList (· = RV.d (DV.bool true))) =
  (let zz0 := (DV.sl ((listL (ints (pxs)) true).length) (ops (listL (ints (pxs)) true))); let zz1 := (Ans Try.prog 9 [] (RV.d (DV.bool true))); let zz2 := ((true = true → True ∧ True ∧ True ∧ (((((endsS (toOps ((ops (listL (ints (pxs)) true))))).2) == (0 : Int)) = false → True ∧ True ∧ True ∧ True ∧ True ∧ True ∧ RV.d (DV.bool ((((endsS (toOps ((ops (listL (ints (pxs)) true))))).1.length : Nat) : Int) == (0 : Int))) = RV.d (DV.bool true)) ∧ ((((endsS (toOps ((ops (listL (ints (pxs)) true))))).2) == (0 : Int)) = (!false) → True ∧ True ∧ True ∧ RV.d (DV.bool true) = RV.d (DV.bool true)))) ∧ (true = (!true) → True ∧ True ∧ RV.d (DV.bool false) = RV.d (DV.bool true))); let zz3 := (0 ≤ modS i (((listL (ints (pxs)) true).length : Nat) : Int) ∧ modS i (((listL (ints (pxs)) true).length : Nat) : Int) < (((endsS (toOps ((ops (listL (ints (pxs)) true))))).1.length : Nat) : Int) ∧ (modS i (((listL (ints (pxs)) true).length : Nat) : Int)).toNat * 1 < (is (endsS (toOps ((ops (listL (ints (pxs)) true))))).1).length); let zz4 := (((is (endsS (toOps ((ops (listL (ints (pxs)) true))))).1)[(modS i (((listL (ints (pxs)) true).length : Nat) : Int)).toNat * 1]? = some (DV.int .i64 (nAt (is (endsS (toOps ((ops (listL (ints (pxs)) true))))).1) ((modS i (((listL (ints (pxs)) true).length : Nat) : Int)).toNat * 1)))) ∧ True); let zz5 := (0 ≤ modS i (((listL (ints (pxs)) true).length : Nat) : Int) ∧ modS i (((listL (ints (pxs)) true).length : Nat) : Int) < (((listL (ints (pxs)) true).length : Nat) : Int) ∧ (modS i (((listL (ints (pxs)) true).length : Nat) : Int)).toNat * 12 < (ops (listL (ints (pxs)) true)).length); let zz6 := (((ops (listL (ints (pxs)) true))[(modS i (((listL (ints (pxs)) true).length : Nat) : Int)).toNat * 12 + 0]? = some (DV.int .i64 (nAt (ops (listL (ints (pxs)) true)) ((modS i (((listL (ints (pxs)) true).length : Nat) : Int)).toNat * 12 + 0)))) ∧ True); let zz7 := ((((nAt (ops (listL (ints (pxs)) true)) ((modS i (((listL (ints (pxs)) true).length : Nat) : Int)).toNat * 12 + 0)) != (2 : Int)) = false → True ∧ True ∧ zz3 ∧ zz4 ∧ True ∧ True ∧ True ∧ True ∧ (((decide ((nAt (is (endsS (toOps ((ops (listL (ints (pxs)) true))))).1) ((modS i (((listL (ints (pxs)) true).length : Nat) : Int)).toNat * 1)) < (((listL (ints (pxs)) true).length : Nat) : Int))) = true → True ∧ True ∧ True ∧ zz3 ∧ zz4 ∧ (0 ≤ nAt (is (endsS (toOps ((ops (listL (ints (pxs)) true))))).1) ((modS i (((listL (ints (pxs)) true).length : Nat) : Int)).toNat * 1) ∧ nAt (is (endsS (toOps ((ops (listL (ints (pxs)) true))))).1) ((modS i (((listL (ints (pxs)) true).length : Nat) : Int)).toNat * 1) < (((listL (ints (pxs)) true).length : Nat) : Int) ∧ (nAt (is (endsS (toOps ((ops (listL (ints (pxs)) true))))).1) ((modS i (((listL (ints (pxs)) true).length : Nat) : Int)).toNat * 1)).toNat * 12 < (ops (listL (ints (pxs)) true)).length) ∧ True ∧ (((ops (listL (ints (pxs)) true))[(nAt (is (endsS (toOps ((ops (listL (ints (pxs)) true))))).1) ((modS i (((listL (ints (pxs)) true).length : Nat) : Int)).toNat * 1)).toNat * 12 + 0]? = some (DV.int .i64 (nAt (ops (listL (ints (pxs)) true)) ((nAt (is (endsS (toOps ((ops (listL (ints (pxs)) true))))).1) ((modS i (((listL (ints (pxs)) true).length : Nat) : Int)).toNat * 1)).toNat * 12 + 0)))) ∧ True) ∧ True ∧ True ∧ True ∧ True ∧ True ∧ (true = true) ∧ RV.d (DV.bool ((nAt (ops (listL (ints (pxs)) true)) ((nAt (is (endsS (toOps ((ops (listL (ints (pxs)) true))))).1) ((modS i (((listL (ints (pxs)) true).length : Nat) : Int)).toNat * 1)).toNat * 12 + 0)) == (3 : Int))) = RV.d (DV.bool true)) ∧ ((decide ((nAt (is (endsS (toOps ((ops (listL (ints (pxs)) true))))).1) ((modS i (((listL (ints (pxs)) true).length : Nat) : Int)).toNat * 1)) < (((listL (ints (pxs)) true).length : Nat) : Int))) = (!true) → True ∧ True ∧ True ∧ True ∧ (true = true) ∧ RV.d (DV.bool false) = RV.d (DV.bool true)))) ∧ (((nAt (ops (listL (ints (pxs)) true)) ((modS i (((listL (ints (pxs)) true).length : Nat) : Int)).toNat * 12 + 0)) != (2 : Int)) = (!false) → True ∧ True ∧ True ∧ (true = true) ∧ RV.d (DV.bool true) = RV.d (DV.bool true))); let zz8 := ((true = true → True ∧ True ∧ True ∧ True ∧ (((decide ((modS i (((listL (ints (pxs)) true).length : Nat) : Int)) ≥ (modS k (((listL (ints (pxs)) true).length : Nat) : Int)))) = false → True ∧ True ∧ True ∧ zz3 ∧ zz4 ∧ True ∧ True ∧ True ∧ (((decide ((modS k (((listL (ints (pxs)) true).length : Nat) : Int)) > (nAt (is (endsS (toOps ((ops (listL (ints (pxs)) true))))).1) ((modS i (((listL (ints (pxs)) true).length : Nat) : Int)).toNat * 1)))) = false → True ∧ True ∧ (0 ≤ modS k (((listL (ints (pxs)) true).length : Nat) : Int) ∧ modS k (((listL (ints (pxs)) true).length : Nat) : Int) < (((endsS (toOps ((ops (listL (ints (pxs)) true))))).1.length : Nat) : Int) ∧ (modS k (((listL (ints (pxs)) true).length : Nat) : Int)).toNat * 1 < (is (endsS (toOps ((ops (listL (ints (pxs)) true))))).1).length) ∧ (((is (endsS (toOps ((ops (listL (ints (pxs)) true))))).1)[(modS k (((listL (ints (pxs)) true).length : Nat) : Int)).toNat * 1]? = some (DV.int .i64 (nAt (is (endsS (toOps ((ops (listL (ints (pxs)) true))))).1) ((modS k (((listL (ints (pxs)) true).length : Nat) : Int)).toNat * 1)))) ∧ True) ∧ True ∧ True ∧ zz3 ∧ zz4 ∧ True ∧ True ∧ True ∧ True ∧ (((decide ((nAt (is (endsS (toOps ((ops (listL (ints (pxs)) true))))).1) ((modS k (((listL (ints (pxs)) true).length : Nat) : Int)).toNat * 1)) ≤ (nAt (is (endsS (toOps ((ops (listL (ints (pxs)) true))))).1) ((modS i (((listL (ints (pxs)) true).length : Nat) : Int)).toNat * 1)))) = true → True ∧ True ∧ zz5 ∧ True ∧ zz6 ∧ True ∧ True ∧ zz7) ∧ ((decide ((nAt (is (endsS (toOps ((ops (listL (ints (pxs)) true))))).1) ((modS k (((listL (ints (pxs)) true).length : Nat) : Int)).toNat * 1)) ≤ (nAt (is (endsS (toOps ((ops (listL (ints (pxs)) true))))).1) ((modS i (((listL (ints (pxs)) true).length : Nat) : Int)).toNat * 1)))) = (!true) → True ∧ True ∧ (true = true) ∧ RV.d (DV.bool false) = RV.d (DV.bool true)))) ∧ ((decide ((modS k (((listL (ints (pxs)) true).length : Nat) : Int)) > (nAt (is (endsS (toOps ((ops (listL (ints (pxs)) true))))).1) ((modS i (((listL (ints (pxs)) true).length : Nat) : Int)).toNat * 1)))) = (!false) → True ∧ True ∧ True ∧ True ∧ True ∧ zz5 ∧ True ∧ zz6 ∧ True ∧ True ∧ zz7))) ∧ ((decide ((modS i (((listL (ints (pxs)) true).length : Nat) : Int)) ≥ (modS k (((listL (ints (pxs)) true).length : Nat) : Int)))) = (!false) → True ∧ True ∧ True ∧ True ∧ True ∧ True ∧ True ∧ zz5 ∧ True ∧ zz6 ∧ True ∧ True ∧ zz7))) ∧ (true = (!true) → True ∧ True ∧ True ∧ True ∧ (true = true) ∧ RV.d (DV.bool false) = RV.d (DV.bool true))); True ∧ True ∧ (Ans Try.prog 7 [RV.d (DV.sl pn pxs), RV.d (DV.bool true)] (RV.d zz0)) ∧ True ∧ True ∧ (Ans Try.prog 16 [RV.d zz0] (RV.tup [RV.d (DV.sl ((endsS (toOps ((ops (listL (ints (pxs)) true))))).1.length) (is (endsS (toOps ((ops (listL (ints (pxs)) true))))).1)), RV.d (DV.int .i64 ((endsS (toOps ((ops (listL (ints (pxs)) true))))).2))])) ∧ True ∧ True ∧ True ∧ True ∧ True ∧ True ∧ True ∧ True ∧ (((((endsS (toOps ((ops (listL (ints (pxs)) true))))).2) != (0 : Int)) = false → True ∧ True ∧ True ∧ True ∧ ((((((listL (ints (pxs)) true).length : Nat) : Int) == (0 : Int)) = true → zz1 ∧ True ∧ zz2) ∧ (((((listL (ints (pxs)) true).length : Nat) : Int) == (0 : Int)) = false → True ∧ True ∧ True ∧ (Ans Try.prog 19 [RV.d (DV.int .i64 i), RV.d (DV.int .i64 (((listL (ints (pxs)) true).length : Nat) : Int))] (RV.d (DV.int .i64 (modS i (((listL (ints (pxs)) true).length : Nat) : Int))))) ∧ True ∧ True ∧ True ∧ (Ans Try.prog 19 [RV.d (DV.int .i64 k), RV.d (DV.int .i64 (((listL (ints (pxs)) true).length : Nat) : Int))] (RV.d (DV.int .i64 (modS k (((listL (ints (pxs)) true).length : Nat) : Int))))) ∧ True ∧ True ∧ True ∧ True ∧ True ∧ True ∧ True ∧ True ∧ ((((((endsS (toOps ((ops (listL (ints (pxs)) true))))).1.length : Nat) : Int) != (((listL (ints (pxs)) true).length : Nat) : Int)) = false → True ∧ True ∧ zz3 ∧ zz4 ∧ True ∧ True ∧ True ∧ True ∧ (((decide ((nAt (is (endsS (toOps ((ops (listL (ints (pxs)) true))))).1) ((modS i (((listL (ints (pxs)) true).length : Nat) : Int)).toNat * 1)) < (modS i (((listL (ints (pxs)) true).length : Nat) : Int)))) = false → True ∧ True ∧ zz5 ∧ True ∧ zz6 ∧ True ∧ True ∧ ((((nAt (ops (listL (ints (pxs)) true)) ((modS i (((listL (ints (pxs)) true).length : Nat) : Int)).toNat * 12 + 0)) != (2 : Int)) = true → True ∧ True ∧ zz3 ∧ zz4 ∧ True ∧ True ∧ True ∧ True ∧ ((((nAt (is (endsS (toOps ((ops (listL (ints (pxs)) true))))).1) ((modS i (((listL (ints (pxs)) true).length : Nat) : Int)).toNat * 1)) != (modS i (((listL (ints (pxs)) true).length : Nat) : Int))) = true → True ∧ RV.d (DV.bool false) = RV.d (DV.bool true)) ∧ (((nAt (is (endsS (toOps ((ops (listL (ints (pxs)) true))))).1) ((modS i (((listL (ints (pxs)) true).length : Nat) : Int)).toNat * 1)) != (modS i (((listL (ints (pxs)) true).length : Nat) : Int))) = false → zz1 ∧ True ∧ zz8))) ∧ (((nAt (ops (listL (ints (pxs)) true)) ((modS i (((listL (ints (pxs)) true).length : Nat) : Int)).toNat * 12 + 0)) != (2 : Int)) = (!true) → True ∧ True ∧ zz1 ∧ True ∧ zz8))) ∧ ((decide ((nAt (is (endsS (toOps ((ops (listL (ints (pxs)) true))))).1) ((modS i (((listL (ints (pxs)) true).length : Nat) : Int)).toNat * 1)) < (modS i (((listL (ints (pxs)) true).length : Nat) : Int)))) = (!false) → True ∧ True ∧ RV.d (DV.bool false) = RV.d (DV.bool true)))) ∧ (((((endsS (toOps ((ops (listL (ints (pxs)) true))))).1.length : Nat) : Int) != (((listL (ints (pxs)) true).length : Nat) : Int)) = (!false) → True ∧ True ∧ True ∧ True ∧ RV.d (DV.bool false) = RV.d (DV.bool true)))))) ∧ ((((endsS (toOps ((ops (listL (ints (pxs)) true))))).2) != (0 : Int)) = (!false) → True ∧ zz1 ∧ True ∧ zz2))) := by kernel_rfl
theorem L21_TreeEndsNest_ans (pn : Nat) (pxs : List DV) (i : Int) (k : Int) (hx : pxs = is (ints pxs) ∧ pn = pxs.length) : Ans Try.prog 6 [RV.d (DV.sl pn pxs), RV.d (DV.int .i64 i), RV.d (DV.int .i64 k)] (RV.d (DV.bool true)) :=
  ans_of_vcg (Γ := gamTreeEndsNest) (L21_TreeEndsNest_ann pn pxs i k) mixed_ Try.func6 rfl (Nat.le_of_ble_eq_true rfl) fun hwf => by
    refine Eq.mpr (L21_TreeEndsNest_vc pn pxs i k) ?_
    simp only [true_and, and_true, RV.d.injEq, RV.agg.injEq, RV.tup.injEq, DV.bool.injEq, DV.int.injEq, DV.sl.injEq, List.cons.injEq, forall_const, Bool.not_false, Bool.not_true, Bool.not_eq_true', Bool.not_eq_false', decide_eq_true_eq, decide_eq_false_iff_not, Int.toNat_natCast]
    obtain ⟨l, rfl, rfl⟩ : ∃ l, pxs = is l ∧ pn = l.length := ⟨ints pxs, hx.1, by rw [hx.2, hx.1, is_length, ints_is]⟩
    have h80 : (listL l true).length ≤ 100000 := by have := listL_len l true; omega
    have aL := L21_list_ans l true
    clear hx
    have aE := tree_Ends_ans (listL l true) h80
    have hpop := listL_pops l true
    have h80' := listL_len l true
    clear hwf
    simp only [ints_is, toOps_ops] at aL aE ⊢
    generalize listL l true = L at *
    have aZ := L21_awake_ans
    have aM1 := G_Mod_ans i (L.length : Int)
    have aM2 := G_Mod_ans k (L.length : Int)
    refine ⟨aL, aE, ?_⟩
    by_cases hc : (endsS L).2 = 0
    · obtain ⟨hlen, e, hf, hnest⟩ := ends_facts hpop hc
      by_cases hn : 0 < L.length
      · have hi := modS_64 (n := i) (k := (L.length : Int)) (by omega) (by omega)
        have hk := modS_64 (n := k) (k := (L.length : Int)) (by omega) (by omega)
        obtain ⟨a, ha, ha1, ha2⟩ := hi
        obtain ⟨b, hb, hb1, hb2⟩ := hk
        obtain ⟨a, rfl⟩ : ∃ m : Nat, a = m := ⟨a.toNat, by omega⟩
        obtain ⟨b, rfl⟩ : ∃ m : Nat, b = m := ⟨b.toNat, by omega⟩
        have hal : a < L.length := by omega
        have hbl : b < L.length := by omega
        obtain ⟨p1, p2, p3, p4⟩ := hf a hal
        obtain ⟨q1, q2, q3, q4⟩ := hf b hbl
        have hne := hnest a b hal
        have ra : (is (endsS L).1)[a]? = some (.int .i64 (e a : Nat)) := by simp [is, p1]
        have rb : (is (endsS L).1)[b]? = some (.int .i64 (e b : Nat)) := by simp [is, q1]
        have na : nAt (is (endsS L).1) a = (e a : Nat) := by simp [nAt, ra]
        have nb : nAt (is (endsS L).1) b = (e b : Nat) := by simp [nAt, rb]
        have oa := (ops_rd hal).1
        have oe := (ops_rd p3).1
        have ma := (ops_at hal).1
        have me := (ops_at p3).1
        obtain ⟨k1, k2⟩ := p4 L[a] (List.getElem?_eq_getElem hal)
        have k2' : L[a].kind = 2 → L[e a].kind = 3 := fun h => by
          obtain ⟨q, hq, hq3⟩ := k2 h
          rw [List.getElem?_eq_getElem p3] at hq
          injection hq with hq
          rw [hq]; exact hq3
        have hil : (is (endsS L).1).length = L.length := by rw [is_length, hlen]
        have hol : (ops L).length = L.length * 12 := ops_length L
        simp only [hc, hlen, ha, hb, na, nb, ma, me, Int.toNat_natCast, Nat.add_zero, Nat.mul_one, ra, rb, oa, oe] at *
        generalize e a = ea at *
        generalize e b = eb at *
        generalize L[a].kind = ka at *
        generalize L[ea].kind = ke at *
        clear p1 q1 q4 p4 k2 hf hnest ra rb na nb oa oe ma me hpop aL aE
        simp only [hil, hol, bne_iff_ne, ne_eq, bne_eq_false_iff_eq, beq_iff_eq, beq_eq_false_iff_ne, not_true, not_false_eq_true, false_implies, true_implies, Bool.true_eq_false, Bool.false_eq_true, true_and, and_true]
        (repeat' (first | apply And.intro | intro _)) <;> first | exact aZ | exact aM1 | exact aM2 | exact trivial | omega | grind
      · have h0 : L.length = 0 := by omega
        have hE : (endsS L).1.length = 0 := by rw [hlen, h0]
        refine ⟨fun _ => ⟨fun _ => ⟨aZ, ⟨fun h => by rw [hE]; rfl, fun _ => trivial⟩, fun h => absurd h (by decide)⟩, fun h => ?_⟩, fun h => ?_⟩
        · rw [h0] at h; exact absurd h (by decide)
        · rw [hc] at h; exact absurd h (by decide)
    · have hE := endsS_bad hc
      refine ⟨fun h => ?_, fun _ => ⟨aZ, ⟨fun h => by rw [hE]; rfl, fun _ => trivial⟩, fun h => absurd h (by decide)⟩⟩
      exact absurd (by simpa using h) hc
end Go.Proofs.Ytaaealkgbklmeaa
/-
  The program's own closed facts, once: each a declaration of its own.
-/
namespace Go.Proofs.Ytaaealkgbklmeaa.closed
open Go
set_option linter.unusedVariables false
set_option linter.unusedSimpArgs false
set_option maxRecDepth 100000 in
theorem headWord : Try.prog.initOrder = String.ofList [Char.ofNat 104, Char.ofNat 97, Char.ofNat 114, Char.ofNat 110, Char.ofNat 101, Char.ofNat 115, Char.ofNat 115, Char.ofNat 32, Char.ofNat 99, Char.ofNat 50, Char.ofNat 51, Char.ofNat 100, Char.ofNat 52, Char.ofNat 56, Char.ofNat 52, Char.ofNat 99, Char.ofNat 101, Char.ofNat 53, Char.ofNat 98, Char.ofNat 56, Char.ofNat 53, Char.ofNat 54, Char.ofNat 54, Char.ofNat 99, Char.ofNat 54, Char.ofNat 51, Char.ofNat 54, Char.ofNat 49, Char.ofNat 50, Char.ofNat 54, Char.ofNat 102, Char.ofNat 50, Char.ofNat 102, Char.ofNat 48, Char.ofNat 97, Char.ofNat 54, Char.ofNat 55, Char.ofNat 57, Char.ofNat 99, Char.ofNat 48, Char.ofNat 55, Char.ofNat 51, Char.ofNat 53, Char.ofNat 54, Char.ofNat 57, Char.ofNat 54, Char.ofNat 54, Char.ofNat 54, Char.ofNat 99, Char.ofNat 53, Char.ofNat 49, Char.ofNat 53, Char.ofNat 101, Char.ofNat 54, Char.ofNat 56, Char.ofNat 98, Char.ofNat 97, Char.ofNat 49, Char.ofNat 98, Char.ofNat 98, Char.ofNat 52, Char.ofNat 53, Char.ofNat 99, Char.ofNat 51, Char.ofNat 54, Char.ofNat 55, Char.ofNat 98, Char.ofNat 99, Char.ofNat 100, Char.ofNat 53, Char.ofNat 57, Char.ofNat 99, Char.ofNat 32, Char.ofNat 99, Char.ofNat 117, Char.ofNat 116, Char.ofNat 32, Char.ofNat 97, Char.ofNat 116, Char.ofNat 32, Char.ofNat 99, Char.ofNat 111, Char.ofNat 109, Char.ofNat 112, Char.ofNat 111, Char.ofNat 115, Char.ofNat 105, Char.ofNat 116, Char.ofNat 111, Char.ofNat 114, Char.ofNat 47, Char.ofNat 99, Char.ofNat 111, Char.ofNat 109, Char.ofNat 112, Char.ofNat 111, Char.ofNat 115, Char.ofNat 105, Char.ofNat 116, Char.ofNat 111, Char.ofNat 114, Char.ofNat 108, Char.ofNat 97, Char.ofNat 119, Char.ofNat 50, Char.ofNat 49, Char.ofNat 46, Char.ofNat 84, Char.ofNat 114, Char.ofNat 101, Char.ofNat 101, Char.ofNat 78, Char.ofNat 117, Char.ofNat 109, Char.ofNat 98, Char.ofNat 101, Char.ofNat 114, Char.ofNat 115, Char.ofNat 71, Char.ofNat 114, Char.ofNat 111, Char.ofNat 119, Char.ofNat 32, Char.ofNat 99, Char.ofNat 111, Char.ofNat 109, Char.ofNat 112, Char.ofNat 111, Char.ofNat 115, Char.ofNat 105, Char.ofNat 116, Char.ofNat 111, Char.ofNat 114, Char.ofNat 47, Char.ofNat 99, Char.ofNat 111, Char.ofNat 109, Char.ofNat 112, Char.ofNat 111, Char.ofNat 115, Char.ofNat 105, Char.ofNat 116, Char.ofNat 111, Char.ofNat 114, Char.ofNat 108, Char.ofNat 97, Char.ofNat 119, Char.ofNat 50, Char.ofNat 49, Char.ofNat 46, Char.ofNat 84, Char.ofNat 114, Char.ofNat 101, Char.ofNat 101, Char.ofNat 82, Char.ofNat 111, Char.ofNat 117, Char.ofNat 110, Char.ofNat 100, Char.ofNat 84, Char.ofNat 114, Char.ofNat 105, Char.ofNat 112, Char.ofNat 32, Char.ofNat 99, Char.ofNat 111, Char.ofNat 109, Char.ofNat 112, Char.ofNat 111, Char.ofNat 115, Char.ofNat 105, Char.ofNat 116, Char.ofNat 111, Char.ofNat 114, Char.ofNat 47, Char.ofNat 99, Char.ofNat 111, Char.ofNat 109, Char.ofNat 112, Char.ofNat 111, Char.ofNat 115, Char.ofNat 105, Char.ofNat 116, Char.ofNat 111, Char.ofNat 114, Char.ofNat 108, Char.ofNat 97, Char.ofNat 119, Char.ofNat 50, Char.ofNat 49, Char.ofNat 46, Char.ofNat 84, Char.ofNat 114, Char.ofNat 101, Char.ofNat 101, Char.ofNat 66, Char.ofNat 117, Char.ofNat 105, Char.ofNat 108, Char.ofNat 100, Char.ofNat 65, Char.ofNat 103, Char.ofNat 114, Char.ofNat 101, Char.ofNat 101, Char.ofNat 115, Char.ofNat 32, Char.ofNat 99, Char.ofNat 111, Char.ofNat 109, Char.ofNat 112, Char.ofNat 111, Char.ofNat 115, Char.ofNat 105, Char.ofNat 116, Char.ofNat 111, Char.ofNat 114, Char.ofNat 47, Char.ofNat 99, Char.ofNat 111, Char.ofNat 109, Char.ofNat 112, Char.ofNat 111, Char.ofNat 115, Char.ofNat 105, Char.ofNat 116, Char.ofNat 111, Char.ofNat 114, Char.ofNat 108, Char.ofNat 97, Char.ofNat 119, Char.ofNat 50, Char.ofNat 49, Char.ofNat 46, Char.ofNat 84, Char.ofNat 114, Char.ofNat 101, Char.ofNat 101, Char.ofNat 69, Char.ofNat 110, Char.ofNat 100, Char.ofNat 115, Char.ofNat 78, Char.ofNat 101, Char.ofNat 115, Char.ofNat 116] := by kernel_rfl
set_option maxRecDepth 100000 in
theorem headSigns : Try.prog.initOrder.toList = [Char.ofNat 104, Char.ofNat 97, Char.ofNat 114, Char.ofNat 110, Char.ofNat 101, Char.ofNat 115, Char.ofNat 115, Char.ofNat 32, Char.ofNat 99, Char.ofNat 50, Char.ofNat 51, Char.ofNat 100, Char.ofNat 52, Char.ofNat 56, Char.ofNat 52, Char.ofNat 99, Char.ofNat 101, Char.ofNat 53, Char.ofNat 98, Char.ofNat 56, Char.ofNat 53, Char.ofNat 54, Char.ofNat 54, Char.ofNat 99, Char.ofNat 54, Char.ofNat 51, Char.ofNat 54, Char.ofNat 49, Char.ofNat 50, Char.ofNat 54, Char.ofNat 102, Char.ofNat 50, Char.ofNat 102, Char.ofNat 48, Char.ofNat 97, Char.ofNat 54, Char.ofNat 55, Char.ofNat 57, Char.ofNat 99, Char.ofNat 48, Char.ofNat 55, Char.ofNat 51, Char.ofNat 53, Char.ofNat 54, Char.ofNat 57, Char.ofNat 54, Char.ofNat 54, Char.ofNat 54, Char.ofNat 99, Char.ofNat 53, Char.ofNat 49, Char.ofNat 53, Char.ofNat 101, Char.ofNat 54, Char.ofNat 56, Char.ofNat 98, Char.ofNat 97, Char.ofNat 49, Char.ofNat 98, Char.ofNat 98, Char.ofNat 52, Char.ofNat 53, Char.ofNat 99, Char.ofNat 51, Char.ofNat 54, Char.ofNat 55, Char.ofNat 98, Char.ofNat 99, Char.ofNat 100, Char.ofNat 53, Char.ofNat 57, Char.ofNat 99, Char.ofNat 32, Char.ofNat 99, Char.ofNat 117, Char.ofNat 116, Char.ofNat 32, Char.ofNat 97, Char.ofNat 116, Char.ofNat 32, Char.ofNat 99, Char.ofNat 111, Char.ofNat 109, Char.ofNat 112, Char.ofNat 111, Char.ofNat 115, Char.ofNat 105, Char.ofNat 116, Char.ofNat 111, Char.ofNat 114, Char.ofNat 47, Char.ofNat 99, Char.ofNat 111, Char.ofNat 109, Char.ofNat 112, Char.ofNat 111, Char.ofNat 115, Char.ofNat 105, Char.ofNat 116, Char.ofNat 111, Char.ofNat 114, Char.ofNat 108, Char.ofNat 97, Char.ofNat 119, Char.ofNat 50, Char.ofNat 49, Char.ofNat 46, Char.ofNat 84, Char.ofNat 114, Char.ofNat 101, Char.ofNat 101, Char.ofNat 78, Char.ofNat 117, Char.ofNat 109, Char.ofNat 98, Char.ofNat 101, Char.ofNat 114, Char.ofNat 115, Char.ofNat 71, Char.ofNat 114, Char.ofNat 111, Char.ofNat 119, Char.ofNat 32, Char.ofNat 99, Char.ofNat 111, Char.ofNat 109, Char.ofNat 112, Char.ofNat 111, Char.ofNat 115, Char.ofNat 105, Char.ofNat 116, Char.ofNat 111, Char.ofNat 114, Char.ofNat 47, Char.ofNat 99, Char.ofNat 111, Char.ofNat 109, Char.ofNat 112, Char.ofNat 111, Char.ofNat 115, Char.ofNat 105, Char.ofNat 116, Char.ofNat 111, Char.ofNat 114, Char.ofNat 108, Char.ofNat 97, Char.ofNat 119, Char.ofNat 50, Char.ofNat 49, Char.ofNat 46, Char.ofNat 84, Char.ofNat 114, Char.ofNat 101, Char.ofNat 101, Char.ofNat 82, Char.ofNat 111, Char.ofNat 117, Char.ofNat 110, Char.ofNat 100, Char.ofNat 84, Char.ofNat 114, Char.ofNat 105, Char.ofNat 112, Char.ofNat 32, Char.ofNat 99, Char.ofNat 111, Char.ofNat 109, Char.ofNat 112, Char.ofNat 111, Char.ofNat 115, Char.ofNat 105, Char.ofNat 116, Char.ofNat 111, Char.ofNat 114, Char.ofNat 47, Char.ofNat 99, Char.ofNat 111, Char.ofNat 109, Char.ofNat 112, Char.ofNat 111, Char.ofNat 115, Char.ofNat 105, Char.ofNat 116, Char.ofNat 111, Char.ofNat 114, Char.ofNat 108, Char.ofNat 97, Char.ofNat 119, Char.ofNat 50, Char.ofNat 49, Char.ofNat 46, Char.ofNat 84, Char.ofNat 114, Char.ofNat 101, Char.ofNat 101, Char.ofNat 66, Char.ofNat 117, Char.ofNat 105, Char.ofNat 108, Char.ofNat 100, Char.ofNat 65, Char.ofNat 103, Char.ofNat 114, Char.ofNat 101, Char.ofNat 101, Char.ofNat 115, Char.ofNat 32, Char.ofNat 99, Char.ofNat 111, Char.ofNat 109, Char.ofNat 112, Char.ofNat 111, Char.ofNat 115, Char.ofNat 105, Char.ofNat 116, Char.ofNat 111, Char.ofNat 114, Char.ofNat 47, Char.ofNat 99, Char.ofNat 111, Char.ofNat 109, Char.ofNat 112, Char.ofNat 111, Char.ofNat 115, Char.ofNat 105, Char.ofNat 116, Char.ofNat 111, Char.ofNat 114, Char.ofNat 108, Char.ofNat 97, Char.ofNat 119, Char.ofNat 50, Char.ofNat 49, Char.ofNat 46, Char.ofNat 84, Char.ofNat 114, Char.ofNat 101, Char.ofNat 101, Char.ofNat 69, Char.ofNat 110, Char.ofNat 100, Char.ofNat 115, Char.ofNat 78, Char.ofNat 101, Char.ofNat 115, Char.ofNat 116] := by rw [headWord, String.toList_ofList]
set_option maxRecDepth 100000 in
theorem enters : Try.prog.mayEnter = true := by
  unfold Program.mayEnter Program.doorFits
  rw [headSigns]
  kernel_rfl
set_option maxRecDepth 100000 in
theorem liftsNot : Try.prog.liftsFinal = false := by
  unfold Program.liftsFinal Program.headLifts
  rw [headSigns]
  kernel_rfl
set_option maxRecDepth 100000 in
theorem made : Try.prog.make = some .cut := by
  unfold Program.make
  rw [headSigns]
  kernel_rfl
theorem own : ownKnob Try.prog.godebug = none := by kernel_rfl
theorem laidOut : laidOutB Try.prog = true := by kernel_rfl
theorem mapsRow : mapsRowed Try.prog = true := by kernel_rfl
theorem noStops : (Try.prog.stops == []) = true := by kernel_rfl
theorem noKnobs : (Try.prog.stopKnobs == []) = true := by kernel_rfl
theorem plain : Try.prog.plainKeys = true := by kernel_rfl
theorem heard : Try.prog.stopsHeard = true := by kernel_rfl
end Go.Proofs.Ytaaealkgbklmeaa.closed
