/-
  Words of this seat that name no program: small closers for walks, rectangles as numbers.
-/
import Derived.WalkKit
import Derived.WalkSpells
import Derived.WalkLawsBesides
import Derived.Lib.Hide
import Derived.BigQuiet
import Derived.Deep.QuietTactic
import Derived.Deep.Draws
import Derived.Deep.AppendLies
import Derived.Laws.OwnMore
import Derived.Maps.AppendAt
import Derived.RegionTactic
import Derived.OwnWalk
import Derived.Deep.RegionHeld3
import Derived.Deep.DeepCutAuto
import Derived.Deep.RegionLaw
namespace Go.Proofs.Ytpdbiocegbimlaa
open Go.RowKit
set_option linter.unusedVariables false
set_option linter.unusedSimpArgs false

theorem ret_bool {a b : Bool} (h : a = b) : Ending.returned (.bool a) = Ending.returned (.bool b) := by rw [h]
theorem ret_int {k : IntKind} {a b : Int} (h : a = b) : Ending.returned (.int k a) = Ending.returned (.int k b) := by rw [h]

/-- What 'Below' gives of old cells and old marks, as rules of the walk. -/
theorem bcell {W w1 : World} (hb : Below W.heap.size W w1) :
    (∀ b o, b < W.heap.size → w1.cell? ⟨b, o, none⟩ = W.cell? ⟨b, o, none⟩) ∧ (∀ b o, b < W.heap.size → w1.frozen? ⟨b, o, none⟩ = W.frozen? ⟨b, o, none⟩) :=
  ⟨fun b o h => hb.cell (p := ⟨b, o, none⟩) h, fun b o h => hb.frozen (p := ⟨b, o, none⟩) h⟩

theorem bcall {W w1 : World} (hb : Below W.heap.size W w1) :
    (∀ b o, b < W.heap.size → w1.cell? ⟨b, o, none⟩ = W.cell? ⟨b, o, none⟩) ∧ (∀ b o, b < W.heap.size → w1.frozen? ⟨b, o, none⟩ = W.frozen? ⟨b, o, none⟩) ∧ W.heap.size ≤ w1.heap.size :=
  ⟨fun b o h => hb.cell (p := ⟨b, o, none⟩) h, fun b o h => hb.frozen (p := ⟨b, o, none⟩) h, hb.size⟩
theorem below_step {B : Nat} {a W w1 : World} (h : Below B a W) (hb : Below W.heap.size W w1) (hB : B ≤ W.heap.size) : Below B a w1 := h.trans (hb.mono hB)

/-! ### min and max kept whole -/
theorem run_max_two {P : Program} (w : World) (ts : Array TypeId) (t : TypeId) (k k' : IntKind) (x y : Int) : (Builtin.max_ ts t #[.int k x, .int k' y]).run P w = .ok (.int k (max x y)) w := by
  rw [run_max_int2, show (if y > x then y else x) = max x y from by omega]
theorem run_min_two {P : Program} (w : World) (ts : Array TypeId) (t : TypeId) (k k' : IntKind) (x y : Int) : (Builtin.min_ ts t #[.int k x, .int k' y]).run P w = .ok (.int k (min x y)) w := by
  rw [run_min_int2, show (if y < x then y else x) = min x y from by omega]

theorem below_drewN {B : Nat} {a w : World} (h : Below B a w) (n : Nat) : Below B a (w.drewN n) := ⟨h.os, h.tape, h.output, h.size, h.block⟩
theorem quiet_add_left {P : Program} {f : FuncId} {args : Array Value} {w : World} {a n : Nat} {v : Value}
    (h : Calls P f args (w.drewN (a + n)) fun e w' => e = .returned v ∧ w.drewN (a + n) = w') :
    Calls P f args (w.drewN (a + n)) fun e w'' => e = .returned v ∧ ∃ m, w'' = w.drewN (a + m) :=
  h.mono fun _ _ ⟨he, hm⟩ => ⟨he, n, hm.symm⟩
theorem quiet_left {P : Program} {f : FuncId} {args : Array Value} {w : World} {n : Nat} {v : Value}
    (h : Calls P f args (w.drewN n) fun e w' => e = .returned v ∧ w.drewN n = w') : Calls P f args (w.drewN n) fun e w'' => e = .returned v ∧ ∃ m, w'' = w.drewN m :=
  h.mono fun _ _ ⟨he, hm⟩ => ⟨he, n, hm.symm⟩

/-! ### a block of the call's own, known whole -/
def Own (w : World) (g : Nat) (t : TypeId) (cs : Array Value) : Prop := w.heap[g]? = some (.cells cs t (0, 0))

section
variable {w w' : World} {g : Nat} {t : TypeId} {cs : Array Value}
theorem Own.lt (h : Own w g t cs) : g < w.heap.size := by
  unfold Own at h
  exact (Array.getElem?_eq_some_iff.1 h).1
theorem Own.cell (h : Own w g t cs) : ∀ i, w.cell? ⟨g, i, none⟩ = cs[i]? := by
  unfold Own at h
  intro i
  exact cell_of_row w g i cs t (0, 0) h
theorem Own.free (h : Own w g t cs) : ∀ i, w.frozen? ⟨g, i, none⟩ = false := by
  unfold Own at h
  intro i
  simp [World.frozen?, h]
theorem Own.new_ (w : World) (t : TypeId) (cs : Array Value) (hg : g = w.heap.size) : Own (w.alloc (.cells cs t)) g t cs := by
  subst hg; unfold Own
  show (w.heap.push _)[w.heap.size]? = _
  rw [Array.getElem?_push_size]
theorem Own.drew (h : Own w g t cs) : Own w.drew g t cs := h
theorem Own.drewN (h : Own w g t cs) (n : Nat) : Own (w.drewN n) g t cs := h
theorem Own.alloc (h : Own w g t cs) (o : Obj) : Own (w.alloc o) g t cs := (Below.heap_alloc w o g h.lt).trans h
theorem Own.far (h : Own w g t cs) {p : Addr} (hp : g ≠ p.block) (u : Value) : Own (w.setCell p u) g t cs := (Below.heap_setCell w p u g hp).trans h
theorem Own.far' (h : Own w g t cs) {g' i : Nat} (hp : g ≠ g') (u : Value) : Own (w.setCell ⟨g', i, none⟩ u) g t cs := h.far hp u
theorem Own.put (h : Own w g t cs) {cs' : Array Value} (i : Nat) (u : Value) (e : cs.setIfInBounds i u = cs') : Own (w.setCell ⟨g, i, none⟩ u) g t cs' := by
  subst e
  unfold Own at h ⊢
  simp [World.setCell, Array.getElem?_modify, h]
theorem Own.below (h : Own w g t cs) (hb : Below w.heap.size w w') : Own w' g t cs := (hb.block g h.lt).trans h
theorem Own.below' {B : Nat} (h : Own w g t cs) (hb : Below B w w') (hg : g < B) : Own w' g t cs := (hb.block g hg).trans h
theorem Own.grown {row : Option Nat} (h : Own w g t cs) (hb : w.grownBy w' row) (hg : some g ≠ row) : Own w' g t cs := (hb.block g h.lt hg).trans h
end

theorem cell_off {w : World} {g g' i j : Nat} {u : Value} (h : g ≠ g' ∨ i ≠ j) : (w.setCell ⟨g, i, none⟩ u).cell? ⟨g', j, none⟩ = w.cell? ⟨g', j, none⟩ :=
  World.cell?_setCell_other _ _ _ _ (by rcases h with h | h <;> simp [h])

/-- a slice that reads as a list of cells and lies in memory that is there -/
def Sl (w : World) (size : Nat) (A : Option Addr) (n : Nat) (xs : List Value) : Prop :=
  xs.length = n * size ∧ (0 < n → ∃ g off, A = some ⟨g, off, none⟩ ∧ g < w.heap.size ∧ ∀ j u, xs[j]? = some u → w.cell? ⟨g, off + j, none⟩ = some u)

section
variable {w w' : World} {size n : Nat} {A : Option Addr} {xs : List Value}
theorem Sl.open_ (h : Sl w size A n xs) : (n = 0 ∧ xs = []) ∨ (0 < n ∧ ∃ g off, A = some ⟨g, off, none⟩ ∧ g < w.heap.size ∧ ∀ j u, xs[j]? = some u → w.cell? ⟨g, off + j, none⟩ = some u) := by
  rcases Nat.eq_zero_or_pos n with h0 | h0
  · subst h0; exact .inl ⟨rfl, List.eq_nil_of_length_eq_zero (by simpa using h.1)⟩
  · exact .inr ⟨h0, h.2 h0⟩
theorem Sl.nil_ (w : World) (size : Nat) : Sl w size none 0 [] := ⟨by simp, fun h => absurd h (by omega)⟩
theorem Sl.below (h : Sl w size A n xs) (hb : Below w.heap.size w w') : Sl w' size A n xs :=
  ⟨h.1, fun hn => by
    obtain ⟨g, off, e, hg, hc⟩ := h.2 hn
    exact ⟨g, off, e, Nat.lt_of_lt_of_le hg hb.size, fun j u hu => (hb.cell (p := ⟨g, off + j, none⟩) hg).trans (hc j u hu)⟩⟩
theorem Sl.drew (h : Sl w size A n xs) : Sl w.drew size A n xs := h
theorem Sl.drewN (h : Sl w size A n xs) (k : Nat) : Sl (w.drewN k) size A n xs := h
theorem Sl.alloc (h : Sl w size A n xs) (o : Obj) : Sl (w.alloc o) size A n xs := h.below ((Below.refl _ _).alloc (Nat.le_refl _) o)
theorem Sl.of_own {base : Nat} {e : TypeId} {c : Nat} (h : w.ownsRow base e size (.slice A n c) n xs) : Sl w size A n xs := by
  refine ⟨h.1, fun hn => ?_⟩
  rcases h.2 with ⟨_, h0⟩ | ⟨g, cap, cur, hv, _, hh, _, _, hsz, ht⟩
  · omega
  · injection hv with hA
    subst hA
    refine ⟨g, 0, rfl, (Array.getElem?_eq_some_iff.1 hh).1, fun j u hu => ?_⟩
    have := h.cells (g := g) rfl j u hu
    rw [Nat.zero_add]
    by_cases hj : j = 0
    · subst hj; simpa [Addr.add] using this
    · simpa [Addr.add, hj] using this
theorem Sl.of_Own {g : Nat} {t : TypeId} {cs : Array Value} (h : Own w g t cs) (hn : cs.toList.length = n * size) : Sl w size (some ⟨g, 0, none⟩) n cs.toList :=
  ⟨hn, fun _ => ⟨g, 0, rfl, h.lt, fun j u hu => by rw [Nat.zero_add, h.cell]; simpa using hu⟩⟩
end

/-- samples -/
def us (l : List Int) : List Value := l.map (.int .u16)
theorem us_at {l : List Int} {k : Nat} (h : k < l.length) : (us l)[k]? = some (.int .u16 l[k]) := by simp [us, h]
theorem us_length (l : List Int) : (us l).length = l.length := by simp [us]

/-! ### planes: sizes -/
theorem mul_bd {x y M : Int} (h1 : 0 ≤ x) (h2 : x ≤ M) (h3 : 0 ≤ y) (h4 : y ≤ M) : 0 ≤ x * y ∧ x * y ≤ M * M :=
  ⟨Int.mul_nonneg h1 h3, Int.mul_le_mul h2 h4 h3 (by omega)⟩
def plSize (W H : Int) : Bool := decide (1 ≤ W ∧ 1 ≤ H ∧ W * H ≤ 16777216)
def plLen (W H S : Int) : Int := (H - 1) * S + W
def plValid (W H S : Int) (n : Nat) : Bool := plSize W H && decide (W ≤ S) && decide (S ≤ 16777216) && decide (plLen W H S ≤ n)
def plNew (W H S : Int) : Bool := plSize W H && decide (W ≤ S) && decide (S ≤ 16777216) && decide (plLen W H S ≤ 16777216)
theorem plSize_true {W H : Int} (h : plSize W H = true) : 1 ≤ W ∧ 1 ≤ H ∧ W * H ≤ 16777216 ∧ W ≤ 16777216 ∧ H ≤ 16777216 := by
  simp [plSize] at h
  obtain ⟨h1, h2, h3⟩ := h
  have a := Int.mul_le_mul_of_nonneg_left h2 (show (0 : Int) ≤ W by omega)
  have b := Int.mul_le_mul_of_nonneg_right h1 (show (0 : Int) ≤ H by omega)
  exact ⟨h1, h2, h3, by omega, by omega⟩
theorem plLen_bd {W H S : Int} (h : plSize W H = true) (h1 : W ≤ S) (h2 : S ≤ 16777216) : 1 ≤ plLen W H S ∧ plLen W H S ≤ 281474993487872 ∧ 0 ≤ (H - 1) * S ∧ (H - 1) * S ≤ 281474976710656 := by
  obtain ⟨a, b, c, d, e⟩ := plSize_true h
  have := mul_bd (x := H - 1) (y := S) (M := 16777216) (by omega) (by omega) (by omega) (by omega)
  unfold plLen
  omega

/-! ### rectangles -/
structure Rc where
  a : Int
  b : Int
  c : Int
  d : Int

def okC (v : Int) : Bool := decide (-1073741824 ≤ v) && decide (v ≤ 1073741824)
def Rc.valid (r : Rc) : Bool := okC r.a && okC r.b && okC r.c && okC r.d
def Rc.empty (r : Rc) : Bool := !r.valid || decide (r.c ≤ r.a) || decide (r.d ≤ r.b)
def Rc.zero : Rc := ⟨0, 0, 0, 0⟩
def Rc.clean (r : Rc) : Rc := if r.empty then Rc.zero else r
def Rc.area (r : Rc) : Int := if r.empty then 0 else (r.c - r.a) * (r.d - r.b)
def Rc.has (r : Rc) (x y : Int) : Bool := !r.empty && decide (r.a ≤ x) && decide (x < r.c) && decide (r.b ≤ y) && decide (y < r.d)
def Rc.inter (r q : Rc) : Rc := if r.empty || q.empty then Rc.zero else Rc.clean ⟨max r.a q.a, max r.b q.b, min r.c q.c, min r.d q.d⟩
def Rc.covers (r q : Rc) : Bool := q.empty || (!r.empty && decide (r.a ≤ q.a) && decide (r.b ≤ q.b) && decide (q.c ≤ r.c) && decide (q.d ≤ r.d))

theorem okC_true {v : Int} : okC v = true ↔ (-1073741824 ≤ v ∧ v ≤ 1073741824) := by simp [okC]
theorem okC_false {v : Int} : okC v = false ↔ (v < -1073741824 ∨ 1073741824 < v) := by simp [okC]; omega
theorem Rc.empty_false {r : Rc} (h : r.empty = false) :
    -1073741824 ≤ r.a ∧ r.a < r.c ∧ r.c ≤ 1073741824 ∧ -1073741824 ≤ r.b ∧ r.b < r.d ∧ r.d ≤ 1073741824 := by
  simp [Rc.empty, Rc.valid, okC] at h
  omega

theorem Rc.empty_of {r : Rc} (h1 : -1073741824 ≤ r.a) (h2 : r.a < r.c) (h3 : r.c ≤ 1073741824) (h4 : -1073741824 ≤ r.b) (h5 : r.b < r.d) (h6 : r.d ≤ 1073741824) : r.empty = false := by
  simp [Rc.empty, Rc.valid, okC]
  omega
theorem Rc.zero_empty : Rc.zero.empty = true := by decide
theorem Rc.clean_of {r : Rc} (h : r.empty = false) : r.clean = r := by simp [Rc.clean, h]
theorem Rc.clean_zero {r : Rc} (h : r.empty = true) : r.clean = Rc.zero := by simp [Rc.clean, h]
theorem Rc.area_wrap (r : Rc) : wrap64 (wrap64 (r.clean.c - r.clean.a) * wrap64 (r.clean.d - r.clean.b)) = r.area := by
  by_cases h : r.empty = true
  · rw [Rc.clean_zero h]; simp [Rc.area, h, Rc.zero, wrap64]
  · have h : r.empty = false := by simpa using h
    obtain ⟨h1, h2, h3, h4, h5, h6⟩ := Rc.empty_false h
    rw [Rc.clean_of h, IntWalk.wrap64_in (r.c - r.a) ⟨by omega, by omega⟩, IntWalk.wrap64_in (r.d - r.b) ⟨by omega, by omega⟩]
    have := mul_bd (x := r.c - r.a) (y := r.d - r.b) (M := 2147483648) (by omega) (by omega) (by omega) (by omega)
    rw [IntWalk.wrap64_in _ ⟨by omega, by omega⟩]
    simp [Rc.area, h]

end Go.Proofs.Ytpdbiocegbimlaa
