/-
  Depths of samples and conversions, in plain words.
-/
import Derived.Test.YtfeknaojnominaaSpM
namespace Go.Proofs.Ytfeknaojnominaa
open Go.RowKit
set_option linter.unusedVariables false
set_option linter.unusedSimpArgs false

def halfS (n d : Int) : Int := if d = 0 then 0 else n / d + (if d - n % d ≤ n % d then 1 else 0)
def to16 (v : Int) : Int := if 255 < v then 65535 else 257 * v
def to8 (v : Int) : Int := halfS (v * 255) 65535
def Px.map (f : Int → Int) (p : Px) : Px := ⟨f p.a, f p.b, f p.c, f p.al, f p.f⟩
def depthOk (b : Int) : Bool := decide (b = 8) || decide (b = 16)
def depthMax (b : Int) : Int := if b = 8 then 255 else if b = 16 then 65535 else 0
def Px.conv (a b : Int) (p : Px) : Px := if a < b then p.map to16 else if b < a then p.map to8 else p
def Im.convOk (m : Im) (a b : Int) : Bool := depthOk a && depthOk b && decide (m.valid (depthMax a) = 0)
def Im.convE (m : Im) (a b : Int) : Int := if !(depthOk a && depthOk b) then 1 else m.valid (depthMax a)
def Im.conv (m : Im) (a b : Int) : Im := if m.convOk a b then (if m.so then solidIm m.w m.h (m.c.conv a b) else imOf m.w m.h (m.pixels.map (Px.conv a b))) else .zero
/-- the first k are converted -/
def mapTo (g : Px → Px) (l : List Px) (k : Nat) : List Px := (l.take k).map g ++ l.drop k
theorem mapTo_len (g : Px → Px) (l : List Px) (k : Nat) : (mapTo g l k).length = l.length := by simp [mapTo]; omega
theorem mapTo_zero (g : Px → Px) (l : List Px) : mapTo g l 0 = l := by simp [mapTo]
theorem mapTo_all (g : Px → Px) (l : List Px) : mapTo g l l.length = l.map g := by simp [mapTo]
theorem mapTo_at {g : Px → Px} {l : List Px} {k : Nat} (h : k < l.length) : (mapTo g l k)[k]'(by rw [mapTo_len]; exact h) = l[k] := by
  have e : ((l.take k).map g).length = k := by simp; omega
  simp only [mapTo]
  rw [List.getElem_append_right (by omega)]
  simp only [e, Nat.sub_self]
  simp
theorem mapTo_set {g : Px → Px} {l : List Px} {k : Nat} (h : k < l.length) : (mapTo g l k).set k (g l[k]) = mapTo g l (k + 1) := by
  have e : ((l.take k).map g).length = k := by simp; omega
  simp only [mapTo]
  rw [List.set_append_right _ _ (by omega), e, Nat.sub_self, List.drop_eq_getElem_cons h, List.set_cons_zero, List.take_add_one, List.getElem?_eq_getElem h, List.map_append]
  simp only [Option.toList_some, List.map_cons, List.map_nil, List.append_assoc, List.cons_append, List.nil_append]
theorem sets_pxs : ∀ {l : List Px} {k : Nat} (p : Px), k < l.length → sets (pxs l) (k * 5) (Px.ds p) = pxs (l.set k p)
  | q :: l, 0, p, _ => by simp [pxs_cons, Px.ds, sets]
  | q :: l, k + 1, p, h => by
    have ih := sets_pxs (l := l) (k := k) p (by simpa using h)
    have e : ∀ (ys : List DV) (xs : List DV) (i : Nat), sets (Px.ds q ++ xs) (i + 5) ys = Px.ds q ++ sets xs i ys := by
      intro ys
      induction ys with
      | nil => intro xs i; rfl
      | cons y ys ih2 =>
        intro xs i
        simp only [sets]
        rw [List.set_append_right _ _ (by simp [Px.ds]), show i + 5 - (Px.ds q).length = i from by simp [Px.ds], show i + 5 + 1 = i + 1 + 5 from by omega, ih2]
    rw [pxs_cons, show (k + 1) * 5 = k * 5 + 5 from by omega, e, ih]
    rfl
/-- what is left of a number when the highest bits are added to the lowest -/
theorem and65535 {n : Int} (h0 : 0 ≤ n) (h1 : n < 18446744073709551616) : ((BitVec.ofInt 64 n &&& BitVec.ofInt 64 65535).toNat : Int) = n % 65536 := by
  obtain ⟨k, rfl⟩ := Int.eq_ofNat_of_zero_le h0
  have hk : k < 18446744073709551616 := by omega
  have e1 : BitVec.ofInt 64 (k : Int) = BitVec.ofNat 64 k := by simp
  have e2 : BitVec.ofInt 64 65535 = BitVec.ofNat 64 65535 := by decide
  rw [e1, e2, BitVec.toNat_and, BitVec.toNat_ofNat, BitVec.toNat_ofNat, Nat.mod_eq_of_lt hk]
  have : k &&& 65535 = k % 65536 := Nat.and_two_pow_sub_one_eq_mod k 16
  rw [show 65535 % 2 ^ 64 = 65535 from rfl, this]
  omega
theorem half_of {N q n : Int} (h : N = 65535 * q + n) (h0 : 0 ≤ n) (h1 : n ≤ 65535) : halfS N 65535 = q + (if 32768 ≤ n then 1 else 0) := by
  unfold halfS
  rw [if_neg (by decide)]
  by_cases e : n = 65535
  · have a : N / 65535 = q + 1 := by omega
    have b : N % 65535 = 0 := by omega
    rw [a, b]; simp [e]
  · have a : N / 65535 = q := by omega
    have b : N % 65535 = n := by omega
    rw [a, b]
    congr 1
    by_cases c : 32768 ≤ n
    · rw [if_pos c, if_pos (by omega)]
    · rw [if_neg c, if_neg (by omega)]
theorem to8_in {v : Int} (h0 : 0 ≤ v) (h1 : v ≤ 65535) : 0 ≤ to8 v ∧ to8 v ≤ 255 := by
  unfold to8
  have hq := half_of (N := v * 255) (q := v * 255 / 65535) (n := v * 255 % 65535) (by omega) (by omega) (by omega)
  rw [hq]
  split <;> omega
theorem to16_in {v : Int} (h0 : 0 ≤ v) : 0 ≤ to16 v ∧ to16 v ≤ 65535 := by unfold to16; split <;> omega
end Go.Proofs.Ytfeknaojnominaa
