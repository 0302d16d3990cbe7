/-
  Images in plain words: what the laws ask.
-/
import Derived.Test.YtfeknaojnominaaSpG
import Derived.Test.YtfeknaojnominaaAbP
namespace Go.Proofs.Ytfeknaojnominaa
open Go.RowKit
set_option linter.unusedVariables false
set_option linter.unusedSimpArgs false

theorem samePl_refl (p : Pl) : samePl p p = true := by simp [samePl, sameP]
theorem Im.same_refl (m : Im) : m.same m = true := by simp [Im.same, samePl_refl]
theorem isU_us_ (l : List Int) {n : Nat} (h : n = l.length) : IsU n (us l) := by
  subst h
  exact isU_of (us_length l) fun j d hj => by
    simp only [us, List.getElem?_map] at hj
    obtain ⟨v, _, rfl⟩ := Option.map_eq_some_iff.1 hj
    exact ⟨v, rfl⟩
theorem isU_nil : IsU 0 [] := isU_of rfl fun j d hj => by simp at hj
theorem zeroIm_isU : Im.zero.isU := ⟨isU_nil, isU_nil, isU_nil, isU_nil, isU_nil⟩
theorem solidIm_isU (w h : Int) (c : Px) : (solidIm w h c).isU := ⟨isU_nil, isU_nil, isU_nil, isU_nil, isU_nil⟩
theorem imOf_isU (w h : Int) (l : List Px) : (imOf w h l).isU := by
  cases hk : ofOk w h l.length with
  | true =>
    rw [imOf_ok hk]
    refine ⟨isU_us_ _ ?_, isU_us_ _ ?_, isU_us_ _ ?_, isU_us_ _ ?_, isU_us_ _ ?_⟩ <;> exact (List.length_map _).symm
  | false => rw [imOf_no hk]; exact zeroIm_isU
theorem is5_of {n : Nat} {xs : List DV} (hn : xs.length = n * 5) (hx : ∀ (j : Nat) d, xs[j]? = some d → ∃ v, d = .int .i64 v) : Is5 n xs :=
  ⟨hn, fun i hi => by
    have hl : i < xs.length := by omega
    obtain ⟨v, e⟩ := hx i _ (List.getElem?_eq_getElem hl)
    rw [List.getElem?_eq_getElem hl, e]
    simp [nAt, List.getElem?_eq_getElem hl, e]⟩
theorem intLeaf5 {P : Program} {t t' : TypeId} {q j : Nat} {d : DV} {k : IntKind} (hu : P.underlying t = some (.int k)) (a : [t, t, t, t, t][j % [t, t, t, t, t].length]? = some t') (b : LeafD P q t' d) : ∃ n, d = .int k n := by
  have : t' = t := by
    have h := List.mem_of_getElem? a
    simpa using h
  subst this
  exact b.int hu
theorem gPixels_is (mood : Int) (L : Nat) (xs : List DV) (most : Int) {n k : Nat} (h : k = n) : IsPxs k (pxs (gPixels mood L xs most n)) := by
  subst h
  have := isPxs_pxs (gPixels mood L xs most k)
  rwa [gPixels_len] at this
theorem modS_in {n k : Int} (h1 : 1 ≤ k) (h2 : k ≤ 4611686018427387904) : 0 ≤ modS n k ∧ modS n k < k := by
  rw [modS_eq h1 h2]
  exact ⟨Int.emod_nonneg _ (by omega), Int.emod_lt_of_pos _ (by omega)⟩
def imR (m : Im) : RV := RV.agg [DV.int .i64 m.w, DV.int .i64 m.h, DV.bool m.so, DV.int .u16 m.c.a, DV.int .u16 m.c.b, DV.int .u16 m.c.c, DV.int .u16 m.c.al, DV.int .u16 m.c.f, DV.int .i64 m.p0.w, DV.int .i64 m.p0.h, DV.int .i64 m.p0.s, DV.sl m.p0.n m.p0.xs, DV.int .i64 m.p1.w, DV.int .i64 m.p1.h, DV.int .i64 m.p1.s, DV.sl m.p1.n m.p1.xs, DV.int .i64 m.p2.w, DV.int .i64 m.p2.h, DV.int .i64 m.p2.s, DV.sl m.p2.n m.p2.xs, DV.int .i64 m.p3.w, DV.int .i64 m.p3.h, DV.int .i64 m.p3.s, DV.sl m.p3.n m.p3.xs, DV.int .i64 m.p4.w, DV.int .i64 m.p4.h, DV.int .i64 m.p4.s, DV.sl m.p4.n m.p4.xs]
def imD (m : Im) : AV := AV.agg [Cl.d (DV.int .i64 m.w), Cl.d (DV.int .i64 m.h), Cl.d (DV.bool m.so), Cl.d (DV.int .u16 m.c.a), Cl.d (DV.int .u16 m.c.b), Cl.d (DV.int .u16 m.c.c), Cl.d (DV.int .u16 m.c.al), Cl.d (DV.int .u16 m.c.f), Cl.d (DV.int .i64 m.p0.w), Cl.d (DV.int .i64 m.p0.h), Cl.d (DV.int .i64 m.p0.s), Cl.d (DV.sl m.p0.n m.p0.xs), Cl.d (DV.int .i64 m.p1.w), Cl.d (DV.int .i64 m.p1.h), Cl.d (DV.int .i64 m.p1.s), Cl.d (DV.sl m.p1.n m.p1.xs), Cl.d (DV.int .i64 m.p2.w), Cl.d (DV.int .i64 m.p2.h), Cl.d (DV.int .i64 m.p2.s), Cl.d (DV.sl m.p2.n m.p2.xs), Cl.d (DV.int .i64 m.p3.w), Cl.d (DV.int .i64 m.p3.h), Cl.d (DV.int .i64 m.p3.s), Cl.d (DV.sl m.p3.n m.p3.xs), Cl.d (DV.int .i64 m.p4.w), Cl.d (DV.int .i64 m.p4.h), Cl.d (DV.int .i64 m.p4.s), Cl.d (DV.sl m.p4.n m.p4.xs)]
def imV (b : Nat) (m : Im) : AV := AV.agg [Cl.d (DV.int .i64 m.w), Cl.d (DV.int .i64 m.h), Cl.d (DV.bool m.so), Cl.d (DV.int .u16 m.c.a), Cl.d (DV.int .u16 m.c.b), Cl.d (DV.int .u16 m.c.c), Cl.d (DV.int .u16 m.c.al), Cl.d (DV.int .u16 m.c.f), Cl.d (DV.int .i64 m.p0.w), Cl.d (DV.int .i64 m.p0.h), Cl.d (DV.int .i64 m.p0.s), Cl.ref (b + 0) m.p0.n, Cl.d (DV.int .i64 m.p1.w), Cl.d (DV.int .i64 m.p1.h), Cl.d (DV.int .i64 m.p1.s), Cl.ref (b + 1) m.p1.n, Cl.d (DV.int .i64 m.p2.w), Cl.d (DV.int .i64 m.p2.h), Cl.d (DV.int .i64 m.p2.s), Cl.ref (b + 2) m.p2.n, Cl.d (DV.int .i64 m.p3.w), Cl.d (DV.int .i64 m.p3.h), Cl.d (DV.int .i64 m.p3.s), Cl.ref (b + 3) m.p3.n, Cl.d (DV.int .i64 m.p4.w), Cl.d (DV.int .i64 m.p4.h), Cl.d (DV.int .i64 m.p4.s), Cl.ref (b + 4) m.p4.n]
def imB (e : Nat) (m : Im) : List Bx := [Bx.row e 1 m.p0.xs, Bx.row e 1 m.p1.xs, Bx.row e 1 m.p2.xs, Bx.row e 1 m.p3.xs, Bx.row e 1 m.p4.xs]
end Go.Proofs.Ytfeknaojnominaa
