/-
  Conversion of an image's pixels one by one, in plain words.
-/
import Derived.Test.YtfeknaojnominaaSpS
namespace Go.Proofs.Ytfeknaojnominaa
open Go.RowKit
set_option linter.unusedVariables false
set_option linter.unusedSimpArgs false

theorem mapTo_nAt {g : Px → Px} {l : List Px} {k : Nat} (h : k < l.length) : nAt (pxs (mapTo g l k)) (k * 5) = l[k].a ∧ nAt (pxs (mapTo g l k)) (k * 5 + 1) = l[k].b ∧ nAt (pxs (mapTo g l k)) (k * 5 + 2) = l[k].c ∧ nAt (pxs (mapTo g l k)) (k * 5 + 3) = l[k].al ∧ nAt (pxs (mapTo g l k)) (k * 5 + 4) = l[k].f := by
  have h1 : k < (mapTo g l k).length := by rw [mapTo_len]; exact h
  have := pxs_nAt h1
  rwa [mapTo_at h] at this
theorem mapTo_get {g : Px → Px} {l : List Px} {k j : Nat} (h : k < l.length) (hj : j < 5) : (pxs (mapTo g l k))[k * 5 + j]? = some (.int .u16 (nAt (pxs (mapTo g l k)) (k * 5 + j))) := pxs_get (by rw [mapTo_len]; exact h) hj
theorem mapTo_is (g : Px → Px) (l : List Px) (k : Nat) : IsPxs l.length (pxs (mapTo g l k)) := by
  have := isPxs_pxs (mapTo g l k)
  rwa [mapTo_len] at this
theorem mapTo_step {g : Px → Px} {l : List Px} {k : Nat} (h : k < l.length) : sets (pxs (mapTo g l k)) (k * 5) (Px.ds (g ⟨nAt (pxs (mapTo g l k)) (k * 5), nAt (pxs (mapTo g l k)) (k * 5 + 1), nAt (pxs (mapTo g l k)) (k * 5 + 2), nAt (pxs (mapTo g l k)) (k * 5 + 3), nAt (pxs (mapTo g l k)) (k * 5 + 4)⟩)) = pxs (mapTo g l (k + 1)) := by
  obtain ⟨a, b, c, d, e⟩ := mapTo_nAt (g := g) h
  rw [a, b, c, d, e, sets_pxs _ (by rw [mapTo_len]; exact h)]
  rw [← mapTo_set h]
theorem mapTo_room {g : Px → Px} {l : List Px} {k : Nat} (h : k < l.length) : k * 5 + 5 ≤ (pxs (mapTo g l k)).length := by
  rw [pxs_length, mapTo_len]; omega
theorem Im.valid_formed {m : Im} {most : Int} (h : m.valid most = 0) : m.formed = true := by
  unfold Im.valid at h
  split at h
  · cases h
  · split at h
    · cases h
    · simp_all [Im.formed]
theorem Im.conv_no {m : Im} {a b : Int} (h : m.convOk a b = false) : m.conv a b = Im.zero := by simp [Im.conv, h]
theorem Im.conv_so {m : Im} {a b : Int} (h : m.convOk a b = true) (hs : m.so = true) : m.conv a b = solidIm m.w m.h (m.c.conv a b) := by simp [Im.conv, h, hs]
theorem Im.conv_pl {m : Im} {a b : Int} (h : m.convOk a b = true) (hs : m.so = false) : m.conv a b = imOf m.w m.h (m.pixels.map (Px.conv a b)) := by simp [Im.conv, h, hs]
theorem conv_W {a b : Int} (h : a < b) : Px.conv a b = Px.map to16 := by funext p; simp [Px.conv, h]
theorem conv_N {a b : Int} (h : b < a) : Px.conv a b = Px.map to8 := by funext p; simp [Px.conv, h, show ¬ a < b by omega]
theorem conv_S {a b : Int} (h : a = b) : Px.conv a b = id := by funext p; simp [Px.conv, h]
theorem Im.pixels_bound {m : Im} (hf : m.formed = true) : m.pixels.length ≤ 16777216 := by
  rw [Im.pixels_of hf, Im.list_len]
  exact (Im.count_le (Im.formed_of hf).1).1
end Go.Proofs.Ytfeknaojnominaa
