/-
  An image in which something is changed, in plain words.
-/
import Derived.Test.YtfeknaojnominaaSpX
namespace Go.Proofs.Ytfeknaojnominaa
open Go.RowKit
set_option linter.unusedVariables false
set_option linter.unusedSimpArgs false
theorem isU_app {n : Nat} {xs : List DV} (h : IsU n xs) (v : Int) : IsU (n + 1) (xs ++ [.int .u16 v]) := by
  obtain ⟨l, rfl, rfl⟩ := h.of
  have e : us l ++ [DV.int .u16 v] = us (l ++ [v]) := by rw [← us_append]; rfl
  rw [e]
  exact isU_us_ _ (by simp)
theorem strided_valid (pw ph so mood : Int) (L : Nat) (xs : List DV) (x0 y0 x1 y1 mx by_ : Int) (hc : 1 ≤ x1 - x0 ∧ x1 - x0 ≤ 100 ∧ 1 ≤ y1 - y0 ∧ y1 - y0 ≤ 100) : (gStrided (gImage pw ph so mood L xs x0 y0 x1 y1 (gMax mx)) by_).valid (gMax mx) = 0 := by
  obtain ⟨gf, g1, g2, g3, g4⟩ := gImage_facts pw ph so mood L xs x0 y0 x1 y1 (gMax mx) hc
  have hm : 0 ≤ gMax mx ∧ gMax mx ≤ 65535 := by unfold gMax; split <;> omega
  have fine := gImage_fine pw ph so mood L xs x0 y0 x1 y1 hm.1 hm.2 hc
  refine (Im.valid_iff (gStrided_formed gf ⟨g2, g4⟩ by_) _).2 fun p hp => ?_
  rw [gStrided_pixels gf ⟨g2, g4⟩ by_] at hp
  exact (fine p hp).1
theorem strided_len {m : Im} (hf : m.formed = true) (hm : m.w ≤ 100 ∧ m.h ≤ 100) (by_ : Int) : (gStrided m by_).p0.n ≤ 10300 ∧ (gStrided m by_).p1.n ≤ 10300 ∧ (gStrided m by_).p2.n ≤ 10300 ∧ (gStrided m by_).p3.n ≤ 10300 ∧ (gStrided m by_).p4.n ≤ 10300 := by
  obtain ⟨qf, qi⟩ := Im.formed_of hf
  obtain ⟨f1, f2, f3, f4, f5⟩ := fits_le qf
  unfold gStrided
  split
  · rename_i hs
    simp [Im.inner, okPl, hs, zeroPl] at qi
    omega
  · rename_i hs
    have hs : m.so = false := by simpa using hs
    obtain ⟨qc, z0, z1, z2, z3, z4⟩ := Im.inner_planes qi hs
    have key : ∀ (p : Pl) (k : Int), p.w = m.w → p.h = m.h → (strP p by_ k).n ≤ 10300 := fun p k h1 h2 => by
      have S := @strS_is p by_ k ⟨by omega, by omega⟩
      exact (@strN_is p (strS p by_ k) ⟨by omega, by omega⟩ ⟨by omega, by omega⟩).2.1
    exact ⟨key _ _ z0.2.1 z0.2.2, key _ _ z1.2.1 z1.2.2, key _ _ z2.2.1 z2.2.2, key _ _ z3.2.1 z3.2.2, key _ _ z4.2.1 z4.2.2⟩
theorem app_one {n : Nat} {xs : List DV} {d : DV} (hl : xs.length = n) (hn : n ≤ 10300) : appVc 1 2 n 1 xs [d] := ⟨by omega, rfl, by unfold maxLen; omega, by omega⟩
theorem im_ex {w h : Int} {so : Bool} {ca cb cc cal cf : Int} {w0 h0 s0 : Int} {n0 : Nat} {xs0 : List DV} {w1 h1 s1 : Int} {n1 : Nat} {xs1 : List DV} {w2 h2 s2 : Int} {n2 : Nat} {xs2 : List DV} {w3 h3 s3 : Int} {n3 : Nat} {xs3 : List DV} {w4 h4 s4 : Int} {n4 : Nat} {xs4 : List DV} (u0 : IsU n0 xs0) (u1 : IsU n1 xs1) (u2 : IsU n2 xs2) (u3 : IsU n3 xs3) (u4 : IsU n4 xs4) : ∃ b : Im, b.isU ∧ (w = b.w ∧ h = b.h ∧ so = b.so ∧ ca = b.c.a ∧ cb = b.c.b ∧ cc = b.c.c ∧ cal = b.c.al ∧ cf = b.c.f ∧ w0 = b.p0.w ∧ h0 = b.p0.h ∧ s0 = b.p0.s ∧ n0 = b.p0.n ∧ w1 = b.p1.w ∧ h1 = b.p1.h ∧ s1 = b.p1.s ∧ n1 = b.p1.n ∧ w2 = b.p2.w ∧ h2 = b.p2.h ∧ s2 = b.p2.s ∧ n2 = b.p2.n ∧ w3 = b.p3.w ∧ h3 = b.p3.h ∧ s3 = b.p3.s ∧ n3 = b.p3.n ∧ w4 = b.p4.w ∧ h4 = b.p4.h ∧ s4 = b.p4.s ∧ n4 = b.p4.n) ∧ xs0 = b.p0.xs ∧ xs1 = b.p1.xs ∧ xs2 = b.p2.xs ∧ xs3 = b.p3.xs ∧ xs4 = b.p4.xs :=
  ⟨⟨w, h, so, ⟨ca, cb, cc, cal, cf⟩, ⟨w0, h0, s0, n0, xs0⟩, ⟨w1, h1, s1, n1, xs1⟩, ⟨w2, h2, s2, n2, xs2⟩, ⟨w3, h3, s3, n3, xs3⟩, ⟨w4, h4, s4, n4, xs4⟩⟩, ⟨u0, u1, u2, u3, u4⟩, ⟨rfl, rfl, rfl, rfl, rfl, rfl, rfl, rfl, rfl, rfl, rfl, rfl, rfl, rfl, rfl, rfl, rfl, rfl, rfl, rfl, rfl, rfl, rfl, rfl, rfl, rfl, rfl, rfl⟩, rfl, rfl, rfl, rfl, rfl⟩
end Go.Proofs.Ytfeknaojnominaa
