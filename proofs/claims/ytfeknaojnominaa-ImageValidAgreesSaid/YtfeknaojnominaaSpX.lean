/-
  Made images are valid, in plain words.
-/
import Derived.Test.YtfeknaojnominaaSpM
namespace Go.Proofs.Ytfeknaojnominaa
open Go.RowKit
set_option linter.unusedVariables false
set_option linter.unusedSimpArgs false

theorem Im.list_so {m : Im} (hs : m.so = true) (n : Nat) : m.list n = List.replicate n m.c := by
  unfold Im.list
  refine List.ext_getElem (by simp) fun i h1 h2 => ?_
  simp [Im.nth, Im.px, hs]
theorem solidIm_pixels {w h : Int} (c : Px) (hf : fitsP w h = true) : (solidIm w h c).pixels = List.replicate (w.toNat * h.toNat) c := by
  rw [Im.pixels_of (solidIm_formed c hf), Im.list_so rfl]; rfl
theorem Im.count_pos {m : Im} (hf : m.formed = true) : 0 < m.w.toNat * m.h.toNat := by
  obtain ⟨f1, f2, f3, f4, f5⟩ := fits_le (Im.formed_of hf).1
  exact Nat.mul_pos (by omega) (by omega)
theorem Im.pixels_so {m : Im} (hf : m.formed = true) (hs : m.so = true) : m.pixels = List.replicate (m.w.toNat * m.h.toNat) m.c := by
  rw [Im.pixels_of hf, Im.list_so hs]
theorem Im.valid_iff {m : Im} (hf : m.formed = true) (most : Int) : m.valid most = 0 ↔ ∀ p ∈ m.pixels, p.ok most = true := by
  obtain ⟨h1, h2⟩ := Im.formed_of hf
  unfold Im.valid
  rw [if_neg (by simp [h1]), if_neg (by simp [h2])]
  cases hs : m.so with
  | true =>
    rw [if_pos rfl, Im.pixels_so hf hs]
    have := Im.count_pos hf
    constructor
    · intro h p hp
      obtain ⟨_, rfl⟩ := List.mem_replicate.1 hp
      split at h
      · assumption
      · cases h
    · intro h
      rw [if_pos (h m.c (List.mem_replicate.2 ⟨by omega, rfl⟩))]
  | false =>
    rw [if_neg (by simp), Im.pixels_of hf]
    unfold Im.okTo Im.count Im.list
    constructor
    · intro h p hp
      split at h
      · rename_i ha
        obtain ⟨k, hk, rfl⟩ := List.mem_map.1 hp
        exact List.all_eq_true.1 ha k hk
      · cases h
    · intro h
      rw [if_pos (List.all_eq_true.2 fun k hk => h _ (List.mem_map.2 ⟨k, hk, rfl⟩))]
theorem gSample_in (n : Int) {most : Int} (h0 : 0 ≤ most) (h1 : most ≤ 65535) : 0 ≤ gSample n most ∧ gSample n most ≤ most := by
  unfold gSample
  rw [IntWalk.i64_in most ⟨by omega, by omega⟩]
  have a2 := @modS_in (IntKind.wrap .i64 (Int.tdiv n 8)) 2 (by omega) (by omega)
  have a4 := @modS_in (IntKind.wrap .i64 (Int.tdiv n 8)) 4 (by omega) (by omega)
  split
  · omega
  · split
    · omega
    · split
      · rw [IntWalk.i64_in (most + _) ⟨by omega, by omega⟩]
        have e : Int.tdiv (most + modS (IntKind.wrap .i64 (Int.tdiv n 8)) 2) 2 = (most + modS (IntKind.wrap .i64 (Int.tdiv n 8)) 2) / 2 := Int.tdiv_eq_ediv_of_nonneg (by omega)
        rw [e, IntWalk.i64_in _ ⟨by omega, by omega⟩, IntWalk.u16_in _ ⟨by omega, by omega⟩]
        omega
      · split
        · rw [IntWalk.u16_in _ ⟨by omega, by omega⟩]
          omega
        · rw [IntWalk.i64_in (most + 1) ⟨by omega, by omega⟩]
          have a := @modS_in (IntKind.wrap .i64 (Int.tdiv n 8)) (most + 1) (by omega) (by omega)
          rw [IntWalk.u16_in _ ⟨by omega, by omega⟩]
          omega
theorem gPixel_ok (n0 n1 n2 n3 n4 : Int) {most : Int} (h0 : 0 ≤ most) (h1 : most ≤ 65535) : (gPixel n0 n1 n2 n3 n4 most).ok most = true ∧ 0 ≤ (gPixel n0 n1 n2 n3 n4 most).a ∧ 0 ≤ (gPixel n0 n1 n2 n3 n4 most).b ∧ 0 ≤ (gPixel n0 n1 n2 n3 n4 most).c ∧ 0 ≤ (gPixel n0 n1 n2 n3 n4 most).al := by
  have hf := gSample_in n4 h0 h1
  have key : ∀ a f : Int, 0 ≤ a → a ≤ f → f ≤ most → Px.ok ⟨gSample n0 a, gSample n1 a, gSample n2 a, a, f⟩ most = true ∧ 0 ≤ gSample n0 a ∧ 0 ≤ gSample n1 a ∧ 0 ≤ gSample n2 a ∧ 0 ≤ a := fun a f k0 k1 k2 => by
    have q0 := gSample_in n0 k0 (by omega)
    have q1 := gSample_in n1 k0 (by omega)
    have q2 := gSample_in n2 k0 (by omega)
    simp [Px.ok]
    omega
  unfold gPixel
  simp only
  split
  · have ha := gSample_in (IntKind.wrap .i64 (Int.tdiv n3 3)) hf.1 (by omega)
    exact key _ _ ha.1 ha.2 hf.2
  · exact key _ _ hf.1 (Int.le_refl _) hf.2
/-- a pixel that is valid, with no negative sample -/
def Px.fine (p : Px) (most : Int) : Prop := p.ok most = true ∧ 0 ≤ p.a ∧ 0 ≤ p.b ∧ 0 ≤ p.c ∧ 0 ≤ p.al
theorem gPx_fine (mood : Int) (L : Nat) (xs : List DV) {most : Int} (h0 : 0 ≤ most) (h1 : most ≤ 65535) (k : Nat) : (gPx mood L xs most k).fine most := by
  have hz : Px.zero.fine most := ⟨by simp [Px.ok, Px.zero, h0], by decide, by decide, by decide, by decide⟩
  have hp : ∀ k, (gPx1 L xs most k).fine most := fun k => gPixel_ok _ _ _ _ _ h0 h1
  unfold gPx
  split
  · exact hz
  · split
    · obtain ⟨a, b⟩ := hp k
      refine ⟨?_, b.1, b.2.1, b.2.2.1, h0⟩
      simp [Px.ok] at a ⊢
      omega
    · split
      · exact hp 0
      · exact hp k
theorem gImage_fine (pw ph so mood : Int) (L : Nat) (xs : List DV) (x0 y0 x1 y1 : Int) {most : Int} (h0 : 0 ≤ most) (h1 : most ≤ 65535) (hc : 1 ≤ x1 - x0 ∧ x1 - x0 ≤ 100 ∧ 1 ≤ y1 - y0 ∧ y1 - y0 ≤ 100) : ∀ p ∈ (gImage pw ph so mood L xs x0 y0 x1 y1 most).pixels, p.fine most := by
  have hf := (gImage_facts pw ph so mood L xs x0 y0 x1 y1 most hc).1
  intro p hp
  rw [gImage_is pw ph so mood L xs x0 y0 x1 y1 most _ _ rfl rfl] at hf hp
  split at hf
  · rename_i hs
    rw [if_pos hs, Im.pixels_so hf rfl] at hp
    obtain ⟨_, rfl⟩ := List.mem_replicate.1 hp
    exact gPx_fine _ _ _ h0 h1 _
  · rename_i hs
    rw [if_neg hs] at hp
    cases hk : ofOk (gSide pw 5 x0 x1 pw) (gSide ph 4 y0 y1 pw) (gPixels mood L xs most (IntKind.wrap .i64 (gSide pw 5 x0 x1 pw * gSide ph 4 y0 y1 pw)).toNat).length with
    | true =>
      rw [(imOf_pixels hk).2] at hp
      unfold gPixels at hp
      obtain ⟨k, _, rfl⟩ := List.mem_map.1 hp
      exact gPx_fine _ _ _ h0 h1 _
    | false =>
      rw [imOf_no hk] at hf
      exact absurd hf (by decide)
end Go.Proofs.Ytfeknaojnominaa
