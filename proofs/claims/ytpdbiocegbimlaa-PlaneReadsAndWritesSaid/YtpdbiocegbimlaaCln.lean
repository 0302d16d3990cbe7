/-
  slices.Clone of samples: the same list.
-/
import Derived.Test.YtpdbiocegbimlaaAbP
import Derived.Test.YtpdbiocegbimlaaMix
import Derived.WalkKit
import Derived.Deep.AppendLies
import Derived.RegionTactic
import Derived.OwnWalk
import Derived.Lib.SliceRun
namespace Go.Proofs.Ytpdbiocegbimlaa
open Go.RowKit
set_option linter.unusedVariables false
set_option linter.unusedSimpArgs false

theorem Clone16_own (n : Nat) (xs : List DV) (hl : xs.length = n) (hb : n * 2 ≤ 140737488355328) : AnsO Try.prog 31 [RV.d (.sl n xs)] 38 1 n xs := by
  intro w S vs hvs
  obtain ⟨v, rfl, hv⟩ : ∃ v, vs = #[v] ∧ RepD w S (.sl n xs) v := by
    obtain ⟨l⟩ := vs
    match l, hvs with
    | [v], h => simp only [RepRs, RepR] at h; exact ⟨v, rfl, h.1⟩
    | [], h => simp only [RepRs] at h
    | _ :: _ :: _, h => simp only [RepRs] at h; exact h.2.elim
  have hv' := hv
  simp only [RepD] at hv
  obtain ⟨A, cap, rfl, h1, h2, h3⟩ := hv
  cases A with
  | none =>
    have : xs = [] := by
      cases xs with
      | nil => rfl
      | cons x xs => obtain ⟨g, off, e, _⟩ := h3 (by simp); cases e
    subst this
    simp at hl
    subst hl
    have hq := fun w' => Go.Lib.run_eql_slice_nil (P := Try.prog) w' 22 38 none 0 cap 0 0 Try.underlying22
    go_enter Try.func31, Try.ntmps31
    go_wp2
    go_ret
    exact ⟨_, rfl, [], World.ownsRow_nil _ _ _ _, trivial, Below.refl _ _⟩
  | some a =>
    have hq := fun w' => Go.Lib.run_eql_slice_nil (P := Try.prog) w' 22 38 (some a) n cap 0 0 Try.underlying22
    by_cases hn : n = 0
    · subst hn
      have : xs = [] := List.eq_nil_of_length_eq_zero hl
      subst this
      go_enter Try.func31, Try.ntmps31
      go_wp2
      refine bodyPost_ret (v := .slice (some ⟨w.heap.size, 0, none⟩) 0 0) (by simp [results, Try.results31, go_sem, *]) rfl ?_
      exact ⟨_, rfl, [], ⟨rfl, .inr ⟨w.heap.size, 0, #[], rfl, Nat.le_refl _, heap_alloc_new w _, Nat.le_refl _, Nat.zero_le _, rfl, rfl⟩⟩, trivial, (Below.refl _ _).alloc (Nat.le_refl _) _⟩
    · obtain ⟨g, off, hA, hg, hc⟩ := h3 (by intro h; subst h; exact hn (by simpa using hl.symm))
      injection hA with hA
      subst hA
      obtain ⟨us, u1, u2⟩ := vals_of_cells hc
      have hul : us.length = n := by rw [← rep_ds_len u1, hl]
      have hown : (w.alloc (.cells #[] 38)).ownsRow w.heap.size 38 1 (.slice (some ⟨w.heap.size, 0, none⟩) 0 0) 0 [] :=
        ⟨rfl, .inr ⟨w.heap.size, 0, #[], rfl, Nat.le_refl _, heap_alloc_new w _, Nat.le_refl _, Nat.zero_le _, rfl, rfl⟩⟩
      go_enter Try.func31, Try.ntmps31
      have hi0 : Try.prog.info? 38 = some Try.t38 := by kernel_rfl
      have hi1 : Try.t38.zero = some (.int .u16 0) := by kernel_rfl
      have hi2 : Try.t38.size = 1 := by kernel_rfl
      have hi3 : Try.t38.bytes = 2 := by kernel_rfl
      go_wp2_with (at_builtin; refine wpList_append_lies _ rfl (.tmp 5) (.tmp 6) 22 rfl w.heap.size 38 Try.t38 (.int .u16 0) 1 2 Try.underlying22 hi0 hi1 hi2 hi3 rfl (by omega) _ 0 [] rfl hown ⟨g, off, none⟩ n cap us rfl (by rw [hul]; omega) (fun j u hj => by rw [addr_add]; exact (Go.Lib.cell?_alloc_some _ (u2 j u hj))) (rep_ds_one u1) (by omega) (by omega) (by omega) (by simp) _ rfl ?_; intro g2 c2 w2 hown2 hgrow hat hgl)
      have hob : w.heap.size ≤ w2.heap.size ∧ Below w.heap.size w w2 := by
        have hb1 : Below w.heap.size w (w.alloc (.cells #[] 38)) := (Below.refl _ _).alloc (Nat.le_refl _) _
        have hb2 := hb1.grown hgrow (by simp) (fun x hx => by
          simp [Act.eval, Value.ownBlock] at hx
          omega)
        exact ⟨hb2.size, hb2⟩
      refine bodyPost_ret (v := .slice (some ⟨g2, 0, none⟩) (0 + n) c2) (by simp [results, Try.results31, go_sem, *]) rfl ?_
      rw [Nat.zero_add, List.nil_append] at hown2
      rw [Nat.zero_add]
      have hge : w.heap.size ≤ g2 := by
        rcases hown2.2 with ⟨e, _⟩ | ⟨g', cap', cur, e, q1, _⟩
        · cases e
        · simp only [Value.slice.injEq, Option.some.injEq, Addr.mk.injEq, and_true, true_and] at e
          obtain ⟨rfl, rfl⟩ := e
          exact q1
      refine ⟨_, rfl, us, hown2, u1.keep fun g o u hV hu => ?_, hob.2⟩
      have hlt : g < w.heap.size := World.block_lt_of_cell? w _ hu
      refine ⟨⟨.inl hV, fun e => ?_⟩, (hob.2.cell (p := ⟨g, o, none⟩) hlt).trans hu⟩
      simp only [Value.ownBlock, Option.some.injEq] at e
      omega
end Go.Proofs.Ytpdbiocegbimlaa
