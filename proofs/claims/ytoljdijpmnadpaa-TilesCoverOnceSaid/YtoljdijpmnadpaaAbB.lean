/-
  The abstract state of a call, and what it means that the model's state stands for it.
-/
import Derived.Test.YtoljdijpmnadpaaAbA
import Derived.RangeFuncLeaves
import Derived.RangeFuncFrom
import Derived.Sort.LoopGhostIn
namespace Go.Proofs.Ytoljdijpmnadpaa
open Go.RowKit
set_option linter.unusedVariables false
set_option linter.unusedSimpArgs false

structure AS where
  tm : Nat → AV
  bx : Nat → Bx

abbrev Names := Nat → Option (Nat × Nat)

/-- these cells lie there, in a block that is seen -/
def Lies (w : World) (V : Nat → Prop) (cells : List DV) (g off : Nat) : Prop := cells ≠ [] → V g ∧ RepCells w V cells g off
theorem Lies.keep {w w' : World} {V V' : Nat → Prop} {cells : List DV} {g off : Nat} (hk : Keeps w V w' V') (h : Lies w V cells g off) : Lies w' V' cells g off := fun hne => by
  obtain ⟨h1, h2⟩ := h hne
  refine ⟨?_, h2.keep hk h1⟩
  cases cells with
  | nil => exact absurd rfl hne
  | cons d ds =>
    simp only [RepCells] at h2
    obtain ⟨⟨u, hu, _⟩, _⟩ := h2
    exact (hk g off u h1 hu).1
theorem Lies.drop {w : World} {V : Nat → Prop} {cells : List DV} {g off : Nat} (h : Lies w V cells g off) (k : Nat) : Lies w V (cells.drop k) g (off + k) := fun hne => by
  obtain ⟨h1, h2⟩ := h (fun e => hne (by simp [e]))
  exact ⟨h1, h2.drop k⟩

def RepCap (ι : Names) (bx : Nat → Bx) (w : World) (V : Nat → Prop) : Cap → Value → Prop
  | .d x, v => RepD w V x v
  | .ptr b off, v => (bx b).known = true ∧ ∃ g c, ι b = some (g, c) ∧ v = .pointer (some ⟨g, off, none⟩)
def RepCaps (ι : Names) (bx : Nat → Bx) (w : World) (V : Nat → Prop) : List Cap → List Value → Prop
  | [], [] => True
  | c :: cs, v :: vs => RepCap ι bx w V c v ∧ RepCaps ι bx w V cs vs
  | _, _ => False
def RepCl (w : World) (V : Nat → Prop) (ι : Names) (bx : Nat → Bx) : Cl → Value → Prop
  | .d x, v => RepD w V x v
  | .lit u, v => v = u ∧ u.oneCell' = true
  | .nil, v => v = .slice none 0 0
  | .ptr b off, v => (bx b).known = true ∧ ∃ g c, ι b = some (g, c) ∧ v = .pointer (some ⟨g, off, none⟩)
  | .vp cells off, v => ∃ g o, v = .pointer (some ⟨g, o + off, none⟩) ∧ Lies w V cells g o
  | .ref b len, v => (bx b).known = true ∧ ((ι b = none ∧ len = 0 ∧ v = .slice none 0 0) ∨ ∃ g cap, ι b = some (g, cap) ∧ v = .slice (some ⟨g, 0, none⟩) len cap ∧ len ≤ cap)
  | .clo f cs, v => ∃ lb : Array Value, v = .func (.func f) #[] lb ∧ RepCaps ι bx w V cs lb.toList
  | .dead, _ => True

def RepCls (w : World) (V : Nat → Prop) (ι : Names) (bx : Nat → Bx) : List Cl → List Value → Prop
  | [], [] => True
  | c :: cs, v :: vs => RepCl w V ι bx c v ∧ RepCls w V ι bx cs vs
  | _, _ => False

mutual
def RepAV (w : World) (V : Nat → Prop) (ι : Names) (bx : Nat → Bx) : AV → Value → Prop
  | .one c, v => RepCl w V ι bx c v
  | .agg cs, v => ∃ cur : Array Value, v = .agg cur ∧ RepCls w V ι bx cs cur.toList
  | .tup vs, v => ∃ cur : Array Value, v = .tuple cur ∧ RepAVs w V ι bx vs cur.toList
def RepAVs (w : World) (V : Nat → Prop) (ι : Names) (bx : Nat → Bx) : List AV → List Value → Prop
  | [], [] => True
  | c :: cs, v :: vs => RepAV w V ι bx c v ∧ RepAVs w V ι bx cs vs
  | _, _ => False
end

def RepBx (w : World) (V : Nat → Prop) (ι : Names) (bx : Nat → Bx) (b : Nat) : Bx → Prop
  | .fresh => True
  | .gone => True
  | .cells cs => ∃ g c cur T, ι b = some (g, c) ∧ w.heap[g]? = some (.cells cur T (0, 0)) ∧ RepCls w V ι bx cs cur.toList
  | .row e size cs => (ι b = none ∧ cs = []) ∨ ∃ g cap cur, ι b = some (g, cap) ∧ w.heap[g]? = some (.cells cur e (0, 0)) ∧ cap ≤ maxLen ∧ cur.size = cap * size ∧ RepDs w V cs (cur.toList.take cs.length)
  | .ice cs => (ι b = none ∧ cs = []) ∨ ∃ g cap, ι b = some (g, cap) ∧ Lies w V cs g 0 ∧ cap ≤ maxLen

/-- where a call stands: what it sees, what is lent to it, slots that stay as they are, names that stay -/
structure Scope where
  see : Nat → Prop
  lent : Nat → Prop := fun _ => False
  /-- a world that was: what is no cells lies as it lay there -/
  ref : World
  base : Nat → Value := fun _ => undef
  nm : Names := fun _ => none
/-- the blocks that views may lie in: the arguments' and new ones, none of the call's own -/
def Seen (S : Scope) (B : Nat) (bx : Nat → Bx) (ι : Names) : Nat → Prop :=
  fun g => (S.see g ∨ B ≤ g ∨ S.lent g) ∧ ∀ b c, (bx b).live = true → ι b ≠ some (g, c)
/-- whatever lay there lies as it lay, but for what was lent -/
structure Bel (L : Nat → Prop) (w w' : World) : Prop where
  os : w'.os = w.os
  tape : w'.tape = w.tape
  output : w'.output = w.output
  size : w.heap.size ≤ w'.heap.size
  block : ∀ g, g < w.heap.size → ¬ L g → w'.heap[g]? = w.heap[g]?
theorem Bel.refl (L : Nat → Prop) (w : World) : Bel L w w := ⟨rfl, rfl, rfl, Nat.le_refl _, fun _ _ _ => rfl⟩
theorem Bel.trans {L : Nat → Prop} {w w' w'' : World} (h : Bel L w w') (h' : Bel L w' w'') : Bel L w w'' :=
  ⟨h'.os.trans h.os, h'.tape.trans h.tape, h'.output.trans h.output, Nat.le_trans h.size h'.size, fun g hg hl => (h'.block g (Nat.lt_of_lt_of_le hg h.size) hl).trans (h.block g hg hl)⟩
theorem Bel.step {L : Nat → Prop} {w w' w'' : World} (h : Bel L w w') (h' : Below w.heap.size w' w'') : Bel L w w'' :=
  ⟨h'.os.trans h.os, h'.tape.trans h.tape, h'.output.trans h.output, Nat.le_trans h.size h'.size, fun g hg hl => (h'.block g hg).trans (h.block g hg hl)⟩
theorem Bel.below {L : Nat → Prop} {w w' : World} (h : Bel L w w') (hl : ∀ g, ¬ L g) : Below w.heap.size w w' := ⟨h.os, h.tape, h.output, h.size, fun g hg => h.block g hg (hl g)⟩

/-- the slots of a call: how many; which it leaves alone; how many boxes keep their names -/
structure Dom where
  n : Nat
  keep : Nat → Bool := fun _ => false
  pin : List Nat := []
  /-- is this a round of a range over a function -/
  round : Bool := false
instance (n : Nat) : OfNat Dom n := ⟨⟨n, fun _ => false, [], false⟩⟩
instance : Coe Nat Dom := ⟨fun n => ⟨n, fun _ => false, [], false⟩⟩
/-- the deferred calls are marks of ranges over functions -/
def Marks (w0 : World) (ds : List Deferred) (w : World) : Prop :=
  ds.Pairwise (· ≠ ·) ∧ ∀ d ∈ ds, ∃ D, d = { target := .collected D, args := #[] } ∧ w0.heap.size ≤ D ∧ w.heap[D]? = some (.deferred (some []))
theorem Marks.keep {w0 w w' : World} {ds : List Deferred} (h : Marks w0 ds w) (hk : KeepsOthers w w') : Marks w0 ds w' :=
  ⟨h.1, fun d hd => by obtain ⟨D, e, h1, h2⟩ := h.2 d hd; exact ⟨D, e, h1, hk.same D _ h2 rfl⟩⟩
theorem keeps_same {w w' : World} (hs : w.heap.size ≤ w'.heap.size) (h : ∀ (k : Nat) (o : Obj), w.heap[k]? = some o → o.isCells = false → w'.heap[k]? = w.heap[k]?) : KeepsOthers w w' :=
  ⟨hs, fun k o hk ho => by rw [h k o hk ho]; exact hk⟩
theorem keeps_below {w w' : World} (h : Below w.heap.size w w') : KeepsOthers w w' :=
  keeps_same h.size fun k o hk _ => h.block k (Array.getElem?_eq_some_iff.1 hk).1
structure RepS (w0 : World) (S : Scope) (n : Dom) (s : AS) (ι : Names) (a : Act) (w : World) : Prop where
  bel : Bel S.lent w0 w
  marks : Marks w0 a.defers w
  oth : KeepsOthers S.ref w
  size : a.tmps.size = n.n
  fix : ∀ t, n.keep t = true → a.tmps.getD t undef = S.base t
  pin : ∀ b ∈ n.pin, ι b = S.nm b ∧ (s.bx b).known = true
  tm : ∀ t, RepAV w (Seen S w0.heap.size s.bx ι) ι s.bx (s.tm t) (a.tmps.getD t undef)
  bx : ∀ b, RepBx w (Seen S w0.heap.size s.bx ι) ι s.bx b (s.bx b)
  own : ∀ b g c, (s.bx b).live = true → ι b = some (g, c) → (w0.heap.size ≤ g ∨ S.lent g) ∧ g < w.heap.size
  dist : ∀ b b' g c c', (s.bx b).live = true → (s.bx b').live = true → b ≠ b' → ι b = some (g, c) → ι b' ≠ some (g, c')

section
variable {w w' : World} {V V' : Nat → Prop} {ι ι' : Names} {bx bx' : Nat → Bx}
/-- names that are known stay -/
def Stays (ι : Names) (bx : Nat → Bx) (ι' : Names) (bx' : Nat → Bx) : Prop := ∀ b, (bx b).known = true → (bx' b).known = true ∧ ι' b = ι b

theorem RepCap.keep (hn : Stays ι bx ι' bx') (hk : Keeps w V w' V') : ∀ {c : Cap} {v : Value}, RepCap ι bx w V c v → RepCap ι' bx' w' V' c v
  | .d _, _, h => RepD.keep hk h
  | .ptr b off, v, ⟨h1, g, c, h2, h3⟩ => ⟨(hn b h1).1, g, c, by rw [(hn b h1).2]; exact h2, h3⟩
theorem RepCaps.keep (hn : Stays ι bx ι' bx') (hk : Keeps w V w' V') : ∀ {cs : List Cap} {vs : List Value}, RepCaps ι bx w V cs vs → RepCaps ι' bx' w' V' cs vs
  | [], [], _ => trivial
  | _ :: _, _ :: _, h => ⟨RepCap.keep hn hk h.1, RepCaps.keep hn hk h.2⟩
  | [], _ :: _, h => h.elim
  | _ :: _, [], h => h.elim
theorem RepCl.keep (hn : Stays ι bx ι' bx') (hk : Keeps w V w' V') : ∀ {c : Cl} {v : Value}, RepCl w V ι bx c v → RepCl w' V' ι' bx' c v
  | .d _, _, h => RepD.keep hk h
  | .lit _, _, h => h
  | .nil, _, h => h
  | .ptr b off, v, ⟨h1, g, c, h2, h3⟩ => ⟨(hn b h1).1, g, c, by rw [(hn b h1).2]; exact h2, h3⟩
  | .vp cells _, v, ⟨g, off, h1, h2⟩ => ⟨g, off, h1, h2.keep hk⟩
  | .ref b len, v, ⟨h1, h2⟩ => ⟨(hn b h1).1, by rw [(hn b h1).2]; exact h2⟩
  | .clo f cs, v, ⟨lb, h1, h2⟩ => ⟨lb, h1, h2.keep hn hk⟩
  | .dead, _, _ => trivial
theorem RepCls.keep (hn : Stays ι bx ι' bx') (hk : Keeps w V w' V') : ∀ {cs : List Cl} {vs : List Value}, RepCls w V ι bx cs vs → RepCls w' V' ι' bx' cs vs
  | [], [], _ => trivial
  | _ :: _, _ :: _, h => ⟨RepCl.keep hn hk h.1, RepCls.keep hn hk h.2⟩
  | [], _ :: _, h => h.elim
  | _ :: _, [], h => h.elim
mutual
theorem RepAV.keep (hn : Stays ι bx ι' bx') (hk : Keeps w V w' V') : ∀ {x : AV} {v : Value}, RepAV w V ι bx x v → RepAV w' V' ι' bx' x v
  | .one _, _, h => by simp only [RepAV] at h ⊢; exact h.keep hn hk
  | .agg _, _, h => by
    simp only [RepAV] at h ⊢
    obtain ⟨cur, e, hc⟩ := h
    exact ⟨cur, e, hc.keep hn hk⟩
  | .tup _, _, h => by
    simp only [RepAV] at h ⊢
    obtain ⟨cur, e, hc⟩ := h
    exact ⟨cur, e, RepAVs.keep hn hk hc⟩
theorem RepAVs.keep (hn : Stays ι bx ι' bx') (hk : Keeps w V w' V') : ∀ {xs : List AV} {vs : List Value}, RepAVs w V ι bx xs vs → RepAVs w' V' ι' bx' xs vs
  | [], [], _ => by simp only [RepAVs]
  | _ :: _, _ :: _, h => by simp only [RepAVs] at h ⊢; exact ⟨RepAV.keep hn hk h.1, RepAVs.keep hn hk h.2⟩
  | [], _ :: _, h => by simp only [RepAVs] at h
  | _ :: _, [], h => by simp only [RepAVs] at h
end
theorem RepBx.keep {b : Nat} (hn : Stays ι bx ι' bx') (hk : Keeps w V w' V') : ∀ {B : Bx}, B.known = true → (bx b).known = true → (B.live = true → ∀ g c, ι b = some (g, c) → w'.heap[g]? = w.heap[g]?) → RepBx w V ι bx b B → RepBx w' V' ι' bx' b B
  | .fresh, _, _, _, _ => trivial
  | .gone, _, _, _, _ => trivial
  | .cells cs, _, hb, hl, ⟨g, c, cur, T, h1, h2, h3⟩ => ⟨g, c, cur, T, by rw [(hn b hb).2]; exact h1, (hl rfl g c h1).trans h2, h3.keep hn hk⟩
  | .row e size cs, _, hb, hl, h => by
    rcases h with ⟨h1, h2⟩ | ⟨g, cap, cur, h1, h2, h3, h4, h5⟩
    · exact .inl ⟨by rw [(hn b hb).2]; exact h1, h2⟩
    · exact .inr ⟨g, cap, cur, by rw [(hn b hb).2]; exact h1, (hl rfl g cap h1).trans h2, h3, h4, h5.keep hk⟩
  | .ice cs, _, hb, _, h => by
    rcases h with ⟨h1, h2⟩ | ⟨g, cap, h1, h2, h3⟩
    · exact .inl ⟨by rw [(hn b hb).2]; exact h1, h2⟩
    · exact .inr ⟨g, cap, by rw [(hn b hb).2]; exact h1, h2.keep hk, h3⟩
end

/-! ### small steps -/
def AS.put (s : AS) (d : Option Nat) (v : AV) : AS :=
  match d with
  | some d => { s with tm := fun t => if t = d then v else s.tm t }
  | none => s
def AS.setB (s : AS) (b : Nat) (B : Bx) : AS := { s with bx := fun b' => if b' = b then B else s.bx b' }

section
variable {w0 : World} {S : Scope} {n : Dom} {s : AS} {ι : Names} {a : Act} {w : World}
theorem RepS.put (h : RepS w0 S n s ι a w) {d : Option Nat} (hd : ∀ k, d = some k → k < n.n ∧ n.keep k = false) {x : AV} {v : Value} (hv : RepAV w (Seen S w0.heap.size s.bx ι) ι s.bx x v) :
    RepS w0 S n (s.put d x) ι (a.put d v) w := by
  cases d with
  | none => exact h
  | some d =>
    have hlt := (hd d rfl).1
    refine ⟨h.bel, h.marks, h.oth, by simp [Act.put, h.size], fun t ht => ?_, h.pin, fun t => ?_, h.bx, h.own, h.dist⟩
    · have : t ≠ d := fun e => by subst e; rw [(hd t rfl).2] at ht; cases ht
      have e : (a.tmps.setIfInBounds d v).getD t undef = a.tmps.getD t undef := by
        simp only [Array.getD_eq_getD_getElem?, Array.getElem?_setIfInBounds_ne (Ne.symm this)]
      exact e.trans (h.fix t ht)
    show RepAV _ _ _ _ (if t = d then x else s.tm t) ((a.tmps.setIfInBounds d v).getD t undef)
    by_cases e : t = d
    · subst e
      rw [if_pos rfl]
      have : (a.tmps.setIfInBounds t v).getD t undef = v := by
        simp [Array.getD, h.size, hlt]
      rw [this]; exact hv
    · rw [if_neg e]
      have : (a.tmps.setIfInBounds d v).getD t undef = a.tmps.getD t undef := by
        simp only [Array.getD_eq_getD_getElem?, Array.getElem?_setIfInBounds_ne (Ne.symm e)]
      rw [this]; exact h.tm t
/-- the world moved on: every box is as it was, or is shown anew -/
theorem RepS.move (h : RepS w0 S n s ι a w) {w' : World} {ι' : Names} {bx' : Nat → Bx} (bel : Bel S.lent w0 w') (ho : KeepsOthers w w')
    (hn : Stays ι s.bx ι' bx') (hk : Keeps w (Seen S w0.heap.size s.bx ι) w' (Seen S w0.heap.size bx' ι'))
    (hb : ∀ b, (bx' b = s.bx b ∧ ((s.bx b).live = true → ∀ g c, ι b = some (g, c) → w'.heap[g]? = w.heap[g]?)) ∨ RepBx w' (Seen S w0.heap.size bx' ι') ι' bx' b (bx' b))
    (own : ∀ b g c, (bx' b).live = true → ι' b = some (g, c) → (w0.heap.size ≤ g ∨ S.lent g) ∧ g < w'.heap.size)
    (dist : ∀ b b' g c c', (bx' b).live = true → (bx' b').live = true → b ≠ b' → ι' b = some (g, c) → ι' b' ≠ some (g, c')) :
    RepS w0 S n ⟨s.tm, bx'⟩ ι' a w' := by
  refine ⟨bel, h.marks.keep ho, h.oth.trans ho, h.size, h.fix, fun b hb => ⟨(hn b (h.pin b hb).2).2.trans (h.pin b hb).1, (hn b (h.pin b hb).2).1⟩, fun t => (h.tm t).keep hn hk, fun b => ?_, own, dist⟩
  rcases hb b with ⟨e, hl⟩ | hb
  · show RepBx _ _ _ _ _ (bx' b)
    rw [e]
    cases hkn : (s.bx b).known with
    | true => exact RepBx.keep hn hk hkn hkn hl (h.bx b)
    | false =>
      cases hB : s.bx b <;> rw [hB] at hkn <;> first | trivial | (simp [Bx.known] at hkn)
  · exact hb
theorem RepS.live_cells (h : RepS w0 S n s ι a w) {b g c : Nat} (hl : (s.bx b).live = true) (hι : ι b = some (g, c)) : ∃ cur T i, w.heap[g]? = some (.cells cur T i) := by
  have hb := h.bx b
  cases hB : s.bx b with
  | fresh => rw [hB] at hl; cases hl
  | gone => rw [hB] at hl; cases hl
  | ice xs => rw [hB] at hl; cases hl
  | cells cs =>
    rw [hB] at hb
    obtain ⟨g', c', cur, T, h1, h2, _⟩ := hb
    rw [hι] at h1
    simp only [Option.some.injEq, Prod.mk.injEq] at h1
    obtain ⟨rfl, rfl⟩ := h1
    exact ⟨cur, T, _, h2⟩
  | row e size xs =>
    rw [hB] at hb
    rcases hb with ⟨h1, _⟩ | ⟨g', cap, cur, h1, h2, _⟩
    · rw [hι] at h1; cases h1
    · rw [hι] at h1
      simp only [Option.some.injEq, Prod.mk.injEq] at h1
      obtain ⟨rfl, rfl⟩ := h1
      exact ⟨cur, e, _, h2⟩
/-- no block turned -/
theorem RepS.quiet (h : RepS w0 S n s ι a w) {w' : World} (bel : Bel S.lent w0 w') (hh : w'.heap = w.heap) : RepS w0 S n s ι a w' := by
  refine h.move bel (keeps_same (by rw [hh]; exact Nat.le_refl _) fun k o _ _ => by rw [hh]) (fun b hb => ⟨hb, rfl⟩) ?_ (fun b => .inl ⟨rfl, fun _ g c _ => by rw [hh]⟩) (fun b g c hl e => by rw [hh]; exact h.own b g c hl e) h.dist
  intro g off u hV hu
  exact ⟨hV, by rw [← hu]; simp [World.cell?, hh]⟩
/-- blocks that were there are as they were -/
theorem RepS.later (h : RepS w0 S n s ι a w) {w' : World} (hb : Below w.heap.size w w') : RepS w0 S n s ι a w' := by
  have hle : w0.heap.size ≤ w.heap.size := h.bel.size
  refine h.move (h.bel.step (hb.mono hle)) (keeps_below hb) (fun b hb => ⟨hb, rfl⟩) ?_ (fun b => .inl ⟨rfl, fun hl g c e => hb.block g (h.own b g c hl e).2⟩) (fun b g c hl e => ⟨(h.own b g c hl e).1, Nat.lt_of_lt_of_le (h.own b g c hl e).2 hb.size⟩) h.dist
  intro g off u hV hu
  refine ⟨hV, ?_⟩
  rw [← hu]
  exact hb.cell (p := ⟨g, off, none⟩) (World.block_lt_of_cell? w _ hu)
/-- a new block under a name that was fresh -/
theorem RepS.new_ (h : RepS w0 S n s ι a w) {w' : World} {b0 : Nat} (hf : s.bx b0 = .fresh) (hb : Below w.heap.size w w') {B : Bx} {p : Option (Nat × Nat)} (hkn : B.known = true)
    (hp : ∀ g c, p = some (g, c) → w.heap.size ≤ g ∧ g < w'.heap.size)
    (hB : RepBx w' (Seen S w0.heap.size (s.setB b0 B).bx (fun b => if b = b0 then p else ι b)) (fun b => if b = b0 then p else ι b) (s.setB b0 B).bx b0 B) :
    RepS w0 S n (s.setB b0 B) (fun b => if b = b0 then p else ι b) a w' := by
  have hle : w0.heap.size ≤ w.heap.size := h.bel.size
  have hne : ∀ b, (s.bx b).known = true → b ≠ b0 := fun b hk e => by subst e; rw [hf] at hk; simp [Bx.known] at hk
  have hlk : ∀ b, (s.bx b).live = true → b ≠ b0 := fun b hk e => by subst e; rw [hf] at hk; simp [Bx.live] at hk
  refine h.move (bx' := (s.setB b0 B).bx) (h.bel.step (hb.mono hle)) (keeps_below hb) (fun b hk => ?_) ?_ (fun b => ?_) (fun b g c hl e => ?_) (fun b b' g c c' hl hl' hbb e => ?_)
  · have := hne b hk
    simp only [AS.setB, if_neg this]
    exact ⟨hk, trivial⟩
  · intro g off u hV hu
    have hlt : g < w.heap.size := World.block_lt_of_cell? w _ hu
    refine ⟨⟨hV.1, fun b c hl e => ?_⟩, by rw [← hu]; exact hb.cell (p := ⟨g, off, none⟩) hlt⟩
    by_cases eb : b = b0
    · simp only [if_pos eb] at e
      have := (hp g c e).1
      omega
    · simp only [if_neg eb] at e
      simp only [AS.setB, if_neg eb] at hl
      exact hV.2 b c hl e
  · by_cases eb : b = b0
    · subst eb
      right
      simpa [AS.setB] using hB
    · left
      simp only [AS.setB, if_neg eb]
      exact ⟨trivial, fun hl g c e => hb.block g (h.own b g c hl e).2⟩
  · by_cases eb : b = b0
    · simp only [if_pos eb] at e
      have := hp g c e
      exact ⟨.inl (by omega), this.2⟩
    · simp only [if_neg eb] at e
      simp only [AS.setB, if_neg eb] at hl
      have := h.own b g c hl e
      exact ⟨this.1, Nat.lt_of_lt_of_le this.2 hb.size⟩
  · by_cases eb : b = b0
    · simp only [if_pos eb] at e
      have h1 := hp g c e
      have eb' : b' ≠ b0 := fun e' => hbb (eb.trans e'.symm)
      simp only [if_neg eb']
      simp only [AS.setB, if_neg eb'] at hl'
      intro e'
      have := h.own b' g c' hl' e'
      omega
    · simp only [if_neg eb] at e
      simp only [AS.setB, if_neg eb] at hl
      by_cases eb' : b' = b0
      · simp only [if_pos eb']
        intro e'
        have h1 := hp g c' e'
        have := h.own b g c hl e
        omega
      · simp only [if_neg eb']
        simp only [AS.setB, if_neg eb'] at hl'
        exact h.dist b b' g c c' hl hl' hbb e
/-- a live box is written -/
theorem RepS.write (h : RepS w0 S n s ι a w) {w' : World} {b0 g0 c0 : Nat} (hl0 : (s.bx b0).live = true) (hι : ι b0 = some (g0, c0)) (hsz : w'.heap.size = w.heap.size)
    (hother : ∀ g, g ≠ g0 → w'.heap[g]? = w.heap[g]?) (hos : w'.os = w.os ∧ w'.tape = w.tape ∧ w'.output = w.output) {B : Bx} (hlB : B.live = true)
    (hB : RepBx w' (Seen S w0.heap.size (s.setB b0 B).bx ι) ι (s.setB b0 B).bx b0 B) : RepS w0 S n (s.setB b0 B) ι a w' := by
  have hkl : ∀ X : Bx, X.live = true → X.known = true := fun X h => by cases X <;> simp_all [Bx.live, Bx.known]
  have hlive : ∀ b, ((s.setB b0 B).bx b).live = true ↔ (s.bx b).live = true := fun b => by
    by_cases eb : b = b0
    · subst eb; simp [AS.setB, hlB, hl0]
    · simp [AS.setB, eb]
  have hg0 := h.own b0 g0 c0 hl0 hι
  refine h.move (bx' := (s.setB b0 B).bx) ?_ (keeps_same (by omega) fun k o hk ho => hother k fun e => ?_) (fun b hk => ⟨?_, rfl⟩) ?_ (fun b => ?_) (fun b g c hl e => ?_) (fun b b' g c c' hl hl' hbb e => ?_)
  · refine ⟨hos.1.trans h.bel.os, hos.2.1.trans h.bel.tape, hos.2.2.trans h.bel.output, by have := h.bel.size; omega, fun k hk hl => ?_⟩
    have hne : k ≠ g0 := fun e => by
      rcases hg0.1 with q | q
      · omega
      · exact hl (by rw [e]; exact q)
    exact (hother k hne).trans (h.bel.block k hk hl)
  · obtain ⟨cur, T, i, hc⟩ := h.live_cells hl0 hι
    subst e
    rw [hc] at hk
    injection hk with hk
    subst hk
    cases ho
  · by_cases eb : b = b0
    · subst eb; simpa [AS.setB] using hkl B hlB
    · simpa [AS.setB, eb] using hk
  · intro g off u hV hu
    refine ⟨⟨hV.1, fun b c hl e => hV.2 b c ((hlive b).1 hl) e⟩, ?_⟩
    have : g ≠ g0 := fun e => hV.2 b0 c0 hl0 (by rw [e]; exact hι)
    rw [← hu]
    simp [World.cell?, hother g this]
  · by_cases eb : b = b0
    · subst eb
      right
      simpa [AS.setB] using hB
    · left
      simp only [AS.setB, if_neg eb]
      exact ⟨trivial, fun hl g c e => hother g (fun e' => h.dist b b0 g c c0 hl hl0 eb e (by rw [e']; exact hι))⟩
  · have := h.own b g c ((hlive b).1 hl) e
    exact ⟨this.1, by omega⟩
  · exact h.dist b b' g c c' ((hlive b).1 hl) ((hlive b').1 hl') hbb e
end
end Go.Proofs.Ytoljdijpmnadpaa
