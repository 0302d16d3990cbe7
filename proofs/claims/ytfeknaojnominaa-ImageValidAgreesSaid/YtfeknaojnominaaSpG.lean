/-
  What the generators make, in plain words: samples, pixels, rows of pixels.
-/
import Derived.Test.YtfeknaojnominaaSpI2
namespace Go.Proofs.Ytfeknaojnominaa
open Go.RowKit
set_option linter.unusedVariables false
set_option linter.unusedSimpArgs false

def gMax (n : Int) : Int := if modS n 3 = 2 then 65535 else 255
def gSample (n most : Int) : Int :=
  if modS n 8 = 0 then 0
  else if modS n 8 = 1 ∨ modS n 8 = 2 then most
  else if modS n 8 = 3 then IntKind.wrap .u16 (IntKind.wrap .i64 (Int.tdiv (IntKind.wrap .i64 (IntKind.wrap .i64 most + modS (IntKind.wrap .i64 (Int.tdiv n 8)) 2)) 2))
  else if modS n 8 = 4 then IntKind.wrap .u16 (min (IntKind.wrap .i64 most) (modS (IntKind.wrap .i64 (Int.tdiv n 8)) 4))
  else IntKind.wrap .u16 (modS (IntKind.wrap .i64 (Int.tdiv n 8)) (IntKind.wrap .i64 (IntKind.wrap .i64 most + 1)))
def gPixel (n0 n1 n2 n3 n4 most : Int) : Px :=
  let f := gSample n4 most
  let a := if 0 < modS n3 3 then gSample (IntKind.wrap .i64 (Int.tdiv n3 3)) f else f
  ⟨gSample n0 a, gSample n1 a, gSample n2 a, a, f⟩
/-- the numbers of the k-th pixel: those of the row, again and again -/
def gNum (L : Nat) (xs : List DV) (k j : Nat) : Int := if 0 < L then nAt xs (k % L * 5 + j) else 0
def gPx1 (L : Nat) (xs : List DV) (most : Int) (k : Nat) : Px := gPixel (gNum L xs k 0) (gNum L xs k 1) (gNum L xs k 2) (gNum L xs k 3) (gNum L xs k 4) most
def gPx (mood : Int) (L : Nat) (xs : List DV) (most : Int) (k : Nat) : Px :=
  if modS mood 6 = 0 then .zero
  else if modS mood 6 = 1 then let p := gPx1 L xs most k; ⟨p.a, p.b, p.c, most, most⟩
  else if modS mood 6 = 2 then gPx1 L xs most 0
  else gPx1 L xs most k
def gPixels (mood : Int) (L : Nat) (xs : List DV) (most : Int) (n : Nat) : List Px := (List.range n).map (gPx mood L xs most)
theorem gPixels_len (mood : Int) (L : Nat) (xs : List DV) (most : Int) (n : Nat) : (gPixels mood L xs most n).length = n := by simp [gPixels]
theorem gPixels_succ (mood : Int) (L : Nat) (xs : List DV) (most : Int) (n : Nat) : gPixels mood L xs most (n + 1) = gPixels mood L xs most n ++ [gPx mood L xs most n] := by simp [gPixels, List.range_succ]
theorem pxs_snoc (l : List Px) (p : Px) : pxs (l ++ [p]) = pxs l ++ Px.ds p := by simp [pxs]
theorem Im.equal_of {m r : Im} (h1 : m.formed = true) (h2 : r.formed = true) (h3 : m.w = r.w) (h4 : m.h = r.h) : m.equal r = decide (m.list (m.w.toNat * m.h.toNat) = r.list (m.w.toNat * m.h.toNat)) := by
  have e : r.pixels = r.list (m.w.toNat * m.h.toNat) := by rw [Im.pixels_of h2, h3, h4]
  rw [Im.equal, Im.pixels_of h1, e]
  simp [h1, h2, h3, h4]
theorem Im.list_nth {m r : Im} {n k : Nat} (hk : k < n) (h : m.list n = r.list n) : m.nth k = r.nth k := by
  have := congrArg (·[k]?) h
  simpa [Im.list, List.getElem?_map, List.getElem?_range hk] using this
theorem Px.eq_of {p q : Px} (h : ((p.a == q.a && (p.b == q.b && (p.c == q.c && true))) && (p.al == q.al && (p.f == q.f && true))) = true) : p = q := by
  cases p; cases q
  simp at h
  simp [h]
theorem Px.ne_of {p q : Px} (h : ((p.a == q.a && (p.b == q.b && (p.c == q.c && true))) && (p.al == q.al && (p.f == q.f && true))) = false) : p ≠ q := fun e => by
  subst e
  simp at h
def Is5 (L : Nat) (xs : List DV) : Prop := xs.length = L * 5 ∧ ∀ i, i < L * 5 → xs[i]? = some (.int .i64 (nAt xs i))
theorem gPx_one {mood : Int} {L : Nat} {xs : List DV} {most : Int} {n : Nat} (hn : 0 < n) (hm : modS mood 6 = 2) : ∃ h : 0 < (gPixels mood L xs most n).length, (gPixels mood L xs most n)[0] = gPx1 L xs most 0 := by
  refine ⟨by rw [gPixels_len]; exact hn, ?_⟩
  simp [gPixels, gPx, hm]
theorem gFirst {mood : Int} {L : Nat} {xs : List DV} {most : Int} {k : Nat} (hk : 0 < k) (j : Nat) (hj : j < 5) : (pxs (gPixels mood L xs most k))[j]? = some (.int .u16 (nAt (pxs (gPixels mood L xs most k)) j)) := by
  have h := pxs_get (l := gPixels mood L xs most k) (k := 0) (j := j) (by rw [gPixels_len]; exact hk) hj
  rw [Nat.zero_mul, Nat.zero_add] at h
  exact h
theorem gFirstV {mood : Int} {L : Nat} {xs : List DV} {most : Int} {k : Nat} (hk : 0 < k) (hm : modS mood 6 = 2) : nAt (pxs (gPixels mood L xs most k)) 0 = (gPx1 L xs most 0).a ∧ nAt (pxs (gPixels mood L xs most k)) 1 = (gPx1 L xs most 0).b ∧ nAt (pxs (gPixels mood L xs most k)) 2 = (gPx1 L xs most 0).c ∧ nAt (pxs (gPixels mood L xs most k)) 3 = (gPx1 L xs most 0).al ∧ nAt (pxs (gPixels mood L xs most k)) 4 = (gPx1 L xs most 0).f := by
  obtain ⟨h, e⟩ := gPx_one (mood := mood) (L := L) (xs := xs) (most := most) hk hm
  have := pxs_nAt h
  rw [e] at this
  simpa only [Nat.zero_mul, Nat.zero_add] using this
theorem gApp {mood : Int} {L : Nat} {xs : List DV} {most : Int} {n k : Nat} (hk : k < n) (hn : n ≤ 16777216) {cs : List DV} (hc : cs.length = 5) : appVc 5 10 k 1 (pxs (gPixels mood L xs most k)) cs := by
  refine ⟨by rw [pxs_length, gPixels_len], by omega, by unfold maxLen; omega, by omega⟩
theorem gStep {mood : Int} {L : Nat} {xs : List DV} {most : Int} {n k : Nat} (hk : k < n) (hn : n ≤ 16777216) {cs : List DV} (hc : cs = Px.ds (gPx mood L xs most k)) :
    ∃ k' : Nat, k' ≤ n ∧ n - k' < n - k ∧ (k + 1 = k' ∧ IntKind.wrap .i64 ((k : Int) + 1) = (k' : Int)) ∧ pxs (gPixels mood L xs most k) ++ cs = pxs (gPixels mood L xs most k') :=
  ⟨k + 1, by omega, by omega, ⟨rfl, wrap_succ (by omega)⟩, by rw [gPixels_succ, pxs_snoc, hc]⟩
end Go.Proofs.Ytfeknaojnominaa
