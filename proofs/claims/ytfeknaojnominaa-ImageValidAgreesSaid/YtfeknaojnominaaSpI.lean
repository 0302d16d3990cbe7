/-
  Images in plain words: pixels, planes of an image, what is well-formed, what is valid.
-/
import Derived.Test.YtfeknaojnominaaSpB
import Derived.Test.YtfeknaojnominaaSpP
namespace Go.Proofs.Ytfeknaojnominaa
open Go.RowKit
set_option linter.unusedVariables false
set_option linter.unusedSimpArgs false

theorem w1_ : IntKind.wrap .i64 0 = 0 ∧ IntKind.wrap .i64 1 = 1 ∧ IntKind.wrap .i64 2 = 2 ∧ IntKind.wrap .i64 3 = 3 ∧ IntKind.wrap .i64 4 = 4 ∧ IntKind.wrap .i64 5 = 5 ∧ IntKind.wrap .i64 6 = 6 := by decide
structure Px where
  a : Int
  b : Int
  c : Int
  al : Int
  f : Int
deriving DecidableEq
def Px.zero : Px := ⟨0, 0, 0, 0, 0⟩
def Px.ds (p : Px) : List DV := [.int .u16 p.a, .int .u16 p.b, .int .u16 p.c, .int .u16 p.al, .int .u16 p.f]
def pxs (l : List Px) : List DV := l.flatMap Px.ds
def dI : DV → Int
  | .int _ n => n
  | _ => 0
def toPxs : List DV → List Px
  | a :: b :: c :: d :: e :: r => ⟨dI a, dI b, dI c, dI d, dI e⟩ :: toPxs r
  | _ => []
theorem toPxs_pxs : ∀ l : List Px, toPxs (pxs l) = l
  | [] => rfl
  | p :: l => by
    show toPxs (Px.ds p ++ pxs l) = _
    simp [Px.ds, toPxs, dI, toPxs_pxs l]
theorem pxs_length (l : List Px) : (pxs l).length = l.length * 5 := by
  induction l with
  | nil => rfl
  | cons p l ih => simp [pxs, Px.ds] at ih ⊢; omega
theorem pxs_cons (p : Px) (l : List Px) : pxs (p :: l) = Px.ds p ++ pxs l := rfl
theorem pxs_append (l m : List Px) : pxs l ++ pxs m = pxs (l ++ m) := by simp [pxs]
theorem pxs_at : ∀ {l : List Px} {k : Nat} (h : k < l.length), (pxs l)[k * 5]? = some (.int .u16 l[k].a) ∧ (pxs l)[k * 5 + 1]? = some (.int .u16 l[k].b) ∧ (pxs l)[k * 5 + 2]? = some (.int .u16 l[k].c) ∧ (pxs l)[k * 5 + 3]? = some (.int .u16 l[k].al) ∧ (pxs l)[k * 5 + 4]? = some (.int .u16 l[k].f)
  | p :: l, 0, _ => by simp [pxs_cons, Px.ds]
  | p :: l, k + 1, h => by
    have := pxs_at (l := l) (k := k) (by simpa using h)
    have e : ∀ j, (pxs (p :: l))[(k + 1) * 5 + j]? = (pxs l)[k * 5 + j]? := fun j => by
      rw [pxs_cons, List.getElem?_append_right (by simp [Px.ds]; omega)]
      congr 1
      simp [Px.ds]; omega
    have e0 := e 0
    simp only [Nat.add_zero] at e0
    simp only [e, e0, List.getElem_cons_succ]
    exact this
theorem pxs_nAt {l : List Px} {k : Nat} (h : k < l.length) : nAt (pxs l) (k * 5) = l[k].a ∧ nAt (pxs l) (k * 5 + 1) = l[k].b ∧ nAt (pxs l) (k * 5 + 2) = l[k].c ∧ nAt (pxs l) (k * 5 + 3) = l[k].al ∧ nAt (pxs l) (k * 5 + 4) = l[k].f := by
  obtain ⟨h1, h2, h3, h4, h5⟩ := pxs_at h
  simp [nAt, h1, h2, h3, h4, h5]
theorem pxs_take (l : List Px) (k : Nat) : (pxs l).take (k * 5) = pxs (l.take k) := by
  induction k generalizing l with
  | zero => simp [pxs]
  | succ k ih =>
    cases l with
    | nil => simp [pxs]
    | cons p l =>
      rw [List.take_succ_cons, pxs_cons, pxs_cons, List.take_append, ← ih]
      simp [Px.ds, show (k + 1) * 5 = k * 5 + 5 from by omega]
def IsPxs (n : Nat) (xs : List DV) : Prop := xs = pxs (toPxs xs) ∧ n = (toPxs xs).length
theorem IsPxs.of {n : Nat} {xs : List DV} (h : IsPxs n xs) : ∃ l : List Px, xs = pxs l ∧ n = l.length := ⟨toPxs xs, h.1, h.2⟩
theorem isPxs_pxs (l : List Px) : IsPxs l.length (pxs l) := ⟨by rw [toPxs_pxs], by rw [toPxs_pxs]⟩
theorem wf_pxs {l : List Px} (h : DV.wfs (pxs l)) : ∀ p ∈ l, 0 ≤ p.a ∧ p.a ≤ 65535 ∧ 0 ≤ p.b ∧ p.b ≤ 65535 ∧ 0 ≤ p.c ∧ p.c ≤ 65535 ∧ 0 ≤ p.al ∧ p.al ≤ 65535 ∧ 0 ≤ p.f ∧ p.f ≤ 65535 := by
  induction l with
  | nil => intro p hp; simp at hp
  | cons q l ih =>
    rw [pxs_cons] at h
    simp only [Px.ds, List.cons_append, List.nil_append, DV.wfs, DV.wf] at h
    obtain ⟨⟨a1, a2⟩, ⟨b1, b2⟩, ⟨c1, c2⟩, ⟨d1, d2⟩, ⟨e1, e2⟩, h⟩ := h
    intro p hp
    rcases List.mem_cons.1 hp with rfl | hp
    · have m1 : IntKind.min .u16 = 0 := rfl
      have m2 : IntKind.max .u16 = 65535 := rfl
      rw [m1] at a1 b1 c1 d1 e1
      rw [m2] at a2 b2 c2 d2 e2
      exact ⟨a1, a2, b1, b2, c1, c2, d1, d2, e1, e2⟩
    · exact ih h p hp

/-! ### images -/
structure Im where
  w : Int
  h : Int
  so : Bool
  c : Px
  p0 : Pl
  p1 : Pl
  p2 : Pl
  p3 : Pl
  p4 : Pl
def Im.zero : Im := ⟨0, 0, false, .zero, .none, .none, .none, .none, .none⟩
def Pl.isU (p : Pl) : Prop := IsU p.n p.xs
def Im.isU (m : Im) : Prop := m.p0.isU ∧ m.p1.isU ∧ m.p2.isU ∧ m.p3.isU ∧ m.p4.isU
def zeroPl (p : Pl) : Bool := decide (p.w = 0) && decide (p.h = 0) && decide (p.s = 0) && decide (p.n = 0)
def okPl (so : Bool) (w h : Int) (p : Pl) : Bool := if so then zeroPl p else validP p.w p.h p.s p.n && decide (p.w = w) && decide (p.h = h)
def Im.inner (m : Im) : Bool := (m.so || decide (m.c = Px.zero)) && (okPl m.so m.w m.h m.p0 && (okPl m.so m.w m.h m.p1 && (okPl m.so m.w m.h m.p2 && (okPl m.so m.w m.h m.p3 && okPl m.so m.w m.h m.p4))))
def Im.formed (m : Im) : Bool := fitsP m.w m.h && m.inner
def Pl.at_ (p : Pl) (x y : Int) : Int := nAt p.xs (y * p.s + x).toNat
def Im.px (m : Im) (x y : Int) : Px := if m.so then m.c else ⟨m.p0.at_ x y, m.p1.at_ x y, m.p2.at_ x y, m.p3.at_ x y, m.p4.at_ x y⟩
def Px.ok (p : Px) (most : Int) : Bool := decide (p.a ≤ p.al) && (decide (p.b ≤ p.al) && (decide (p.c ≤ p.al) && (decide (p.al ≤ p.f) && decide (p.f ≤ most))))
/-- the k-th pixel, row by row -/
def Im.nth (m : Im) (k : Nat) : Px := m.px ((k % m.w.toNat : Nat) : Int) ((k / m.w.toNat : Nat) : Int)
def Im.count (m : Im) : Nat := m.w.toNat * m.h.toNat
def Im.okTo (m : Im) (most : Int) (k : Nat) : Bool := (List.range k).all fun i => (m.nth i).ok most
def Im.valid (m : Im) (most : Int) : Int :=
  if fitsP m.w m.h = false then 6 else if m.inner = false then 7 else if m.so then (if m.c.ok most then 0 else 8) else if m.okTo most m.count then 0 else 8
def Im.shape (m : Im) : Int := if fitsP m.w m.h = false then 6 else if m.inner = false then 7 else 0
def Im.list (m : Im) (k : Nat) : List Px := (List.range k).map m.nth
def Im.pixels (m : Im) : List Px := if m.formed then m.list m.count else []
def Im.at_ (m : Im) (x y : Int) : Px := if m.formed && decide (0 ≤ x) && decide (x < m.w) && decide (0 ≤ y) && decide (y < m.h) then m.px x y else .zero
def solidIm (w h : Int) (c : Px) : Im := ⟨w, h, true, c, .none, .none, .none, .none, .none⟩
def chan (l : List Px) (g : Px → Int) : List DV := us (l.map g)
def ofIm (w h : Int) (l : List Px) : Im :=
  let q (g : Px → Int) : Pl := ⟨w, h, w, l.length, chan l g⟩
  ⟨w, h, false, .zero, q Px.a, q Px.b, q Px.c, q Px.al, q Px.f⟩
def ofOk (w h : Int) (n : Nat) : Bool := fitsP w h && decide ((n : Int) = w * h)
def imOf (w h : Int) (l : List Px) : Im := if ofOk w h l.length then ofIm w h l else .zero
def Im.equal (m n : Im) : Bool := m.formed && n.formed && decide (m.w = n.w) && decide (m.h = n.h) && decide (m.pixels = n.pixels)
theorem plane_at {w h s : Int} {n : Nat} {xs : List DV} (hu : IsU n xs) (hv : validP w h s n = true) {x y : Int} (hx : 0 ≤ x ∧ x < w) (hy : 0 ≤ y ∧ y < h) :
    IntKind.wrap .i64 (IntKind.wrap .i64 (y * s) + x) = y * s + x ∧ (0 ≤ y * s + x ∧ y * s + x < n ∧ (y * s + x).toNat * 1 < xs.length) ∧ xs[(y * s + x).toNat * 1]? = some (.int .u16 (nAt xs ((y * s + x).toNat * 1))) := by
  obtain ⟨l, rfl, rfl⟩ := hu.of
  have hp := place hv hx.1 hx.2 hy.1 hy.2
  have hf := valid_facts hv
  have h1 : 0 ≤ y * s := hp.1
  have h2 : y * s + x < l.length := by exact_mod_cast hp.2.1
  have hy16 : y ≤ 16777216 := by omega
  have hs16 : s ≤ 16777216 := by omega
  have hb : y * s ≤ 281474976710656 := by
    have := Int.mul_le_mul hy16 hs16 (by omega) (by omega)
    omega
  have w1 : IntKind.wrap .i64 (y * s) = y * s := IntWalk.i64_in _ ⟨by omega, by omega⟩
  have w2 : IntKind.wrap .i64 (y * s + x) = y * s + x := IntWalk.i64_in _ ⟨by omega, by omega⟩
  rw [w1, w2]
  have hk : (y * s + x).toNat * 1 < l.length := by omega
  refine ⟨rfl, ⟨by omega, h2, by rw [us_length]; exact hk⟩, ?_⟩
  rw [us_at hk, us_nAt hk]
theorem Im.inner_planes {m : Im} (h : m.inner = true) (hs : m.so = false) : m.c = Px.zero ∧ (validP m.p0.w m.p0.h m.p0.s m.p0.n = true ∧ m.p0.w = m.w ∧ m.p0.h = m.h) ∧ (validP m.p1.w m.p1.h m.p1.s m.p1.n = true ∧ m.p1.w = m.w ∧ m.p1.h = m.h) ∧
    (validP m.p2.w m.p2.h m.p2.s m.p2.n = true ∧ m.p2.w = m.w ∧ m.p2.h = m.h) ∧ (validP m.p3.w m.p3.h m.p3.s m.p3.n = true ∧ m.p3.w = m.w ∧ m.p3.h = m.h) ∧ (validP m.p4.w m.p4.h m.p4.s m.p4.n = true ∧ m.p4.w = m.w ∧ m.p4.h = m.h) := by
  simp [Im.inner, okPl, hs] at h
  grind
theorem Im.okTo_zero (m : Im) (most : Int) : m.okTo most 0 = true := rfl
theorem Im.okTo_succ (m : Im) (most : Int) (k : Nat) : m.okTo most (k + 1) = (m.okTo most k && (m.nth k).ok most) := by
  simp [Im.okTo, List.range_succ, List.all_append]
theorem Im.okTo_le {m : Im} {most : Int} {k n : Nat} (h : k ≤ n) (hn : m.okTo most n = true) : m.okTo most k = true := by
  simp only [Im.okTo, List.all_eq_true, List.mem_range] at hn ⊢
  exact fun i hi => hn i (by omega)
theorem Im.shape_zero {m : Im} (h : m.shape = 0) : fitsP m.w m.h = true ∧ m.inner = true := by
  unfold Im.shape at h
  split at h
  · cases h
  · split at h
    · cases h
    · simp_all
theorem Im.valid_shape {m : Im} (most : Int) (h : m.shape ≠ 0) : m.valid most = m.shape := by
  unfold Im.shape at h ⊢
  unfold Im.valid
  split
  · rfl
  · rename_i h1
    rw [if_neg h1] at h
    split
    · rfl
    · rename_i h2
      rw [if_neg h2] at h
      exact absurd rfl h
theorem Im.valid_solid {m : Im} {most : Int} (h : m.shape = 0) (hs : m.so = true) : m.valid most = if m.c.ok most then 0 else 8 := by
  obtain ⟨h1, h2⟩ := Im.shape_zero h
  simp [Im.valid, h1, h2, hs]
theorem Im.valid_planes {m : Im} {most : Int} (h : m.shape = 0) (hs : m.so = false) : m.valid most = if m.okTo most (m.w.toNat * m.h.toNat) then 0 else 8 := by
  obtain ⟨h1, h2⟩ := Im.shape_zero h
  unfold Im.valid Im.count
  rw [if_neg (by simp [h1]), if_neg (by simp [h2]), if_neg (by simp [hs])]
/-- where the k-th pixel lies -/
theorem Im.nth_in {m : Im} (hf : fitsP m.w m.h = true) {k : Nat} (hk : k < m.w.toNat * m.h.toNat) : (0 ≤ (((k % m.w.toNat : Nat)) : Int) ∧ (((k % m.w.toNat : Nat)) : Int) < m.w) ∧ (0 ≤ (((k / m.w.toNat : Nat)) : Int) ∧ (((k / m.w.toNat : Nat)) : Int) < m.h) := by
  obtain ⟨a, b, c, d, e⟩ := fits_le hf
  have h1 := Nat.mod_lt k (show 0 < m.w.toNat by omega)
  have h2 : k / m.w.toNat < m.h.toNat := Nat.div_lt_of_lt_mul hk
  generalize k % m.w.toNat = q at *
  generalize k / m.w.toNat = r at *
  omega
theorem Im.count_le {m : Im} (hf : fitsP m.w m.h = true) : m.w.toNat * m.h.toNat ≤ 16777216 ∧ ((m.w.toNat * m.h.toNat : Nat) : Int) = m.w * m.h := by
  obtain ⟨a, b, c, d, e⟩ := fits_le hf
  have : ((m.w.toNat * m.h.toNat : Nat) : Int) = m.w * m.h := by
    rw [Int.natCast_mul, Int.toNat_of_nonneg (by omega), Int.toNat_of_nonneg (by omega)]
  exact ⟨by omega, this⟩
theorem items_ok {w h : Int} (hf : fitsP w h = true) (k : Nat) (hk : k < w.toNat * h.toNat) : [DV.int .i64 ((k % w.toNat : Nat) : Int), DV.int .i64 ((k / w.toNat : Nat) : Int)].length = 2 ∧ plainsOK [DV.int .i64 ((k % w.toNat : Nat) : Int), DV.int .i64 ((k / w.toNat : Nat) : Int)] := by
  obtain ⟨a, b, c, d, e⟩ := fits_le hf
  obtain ⟨⟨h1, h2⟩, h3, h4⟩ := Im.nth_in (m := ⟨w, h, true, .zero, .none, .none, .none, .none, .none⟩) hf hk
  have m1 : IntKind.min .i64 = -9223372036854775808 := rfl
  have m2 : IntKind.max .i64 = 9223372036854775807 := rfl
  simp only at h1 h2 h3 h4
  generalize k % w.toNat = q at *
  generalize k / w.toNat = r at *
  refine ⟨rfl, ⟨?_, ?_⟩, ⟨?_, ?_⟩, trivial⟩ <;> (first | rw [m1] | rw [m2]) <;> omega
theorem Im.list_succ (m : Im) (k : Nat) : m.list (k + 1) = m.list k ++ [m.nth k] := by simp [Im.list, List.range_succ]
theorem Im.list_len (m : Im) (k : Nat) : (m.list k).length = k := by simp [Im.list]
theorem Im.pxs_succ (m : Im) (k : Nat) : pxs (m.list k) ++ Px.ds (m.nth k) = pxs (m.list (k + 1)) := by rw [Im.list_succ, ← pxs_append]; simp [pxs]
theorem Im.formed_of {m : Im} (h : m.formed = true) : fitsP m.w m.h = true ∧ m.inner = true := by simpa [Im.formed] using h
theorem Im.pixels_of {m : Im} (h : m.formed = true) : m.pixels = m.list (m.w.toNat * m.h.toNat) := by simp [Im.pixels, h, Im.count]
theorem Im.nth_at {m : Im} {x y : Nat} (hx : x < m.w.toNat) : m.nth (y * m.w.toNat + x) = m.px x y := by
  have hW : 0 < m.w.toNat := by omega
  have e1 : (y * m.w.toNat + x) % m.w.toNat = x := by rw [Nat.add_comm, Nat.add_mul_mod_self_right, Nat.mod_eq_of_lt hx]
  have e2 : (y * m.w.toNat + x) / m.w.toNat = y := by rw [Nat.add_comm, Nat.add_mul_div_right _ _ hW, Nat.div_eq_of_lt hx, Nat.zero_add]
  rw [Im.nth, e1, e2]
theorem in_area {w h x y : Nat} (hx : x < w) (hy : y < h) : y * w + x < w * h := by
  have h1 : (y + 1) * w ≤ h * w := Nat.mul_le_mul_right _ (by omega)
  rw [Nat.mul_comm w, Nat.add_mul] at *
  omega
theorem Im.at_in {m : Im} {x y : Int} (h : m.formed = true) (hx : 0 ≤ x ∧ x < m.w) (hy : 0 ≤ y ∧ y < m.h) : m.at_ x y = m.px x y := by
  simp [Im.at_, h, hx, hy]
theorem Im.at_out {m : Im} {x y : Int} (h : m.formed = false ∨ x < 0 ∨ m.w ≤ x ∨ y < 0 ∨ m.h ≤ y) : m.at_ x y = Px.zero := by
  unfold Im.at_
  rw [if_neg]
  simp
  intro h1 h2 h3 h4
  rcases h with h | h | h | h | h
  · rw [h] at h1; cases h1
  all_goals omega
end Go.Proofs.Ytfeknaojnominaa
