/-
  Abstract values: data without addresses, and what it means that a value of the model stands for them.
-/
import Derived.WalkKit
import Derived.Deep.AppendLies
import Derived.Orders
import Derived.Laws.OwnMore
namespace Go.Proofs.Ytoljdijpmnadpaa
open Go.RowKit
set_option linter.unusedVariables false
set_option linter.unusedSimpArgs false

/-- data of one cell -/
inductive DV where
  | int (k : IntKind) (n : Int)
  | bool (b : Bool)
  | str (s : ByteArray)
  | sl (len : Nat) (cells : List DV)
  | fn (f : Nat)

/-- what a closure holds: data, or a pointer to a box -/
inductive Cap where
  | d (v : DV)
  | ptr (b off : Nat)

/-- a cell of a call's own -/
inductive Cl where
  | d (v : DV)
  | lit (v : Value)
  | nil
  | ptr (b off : Nat)
  | vp (cells : List DV) (off : Nat)
  | ref (b len : Nat)
  | clo (f : Nat) (cs : List Cap)
  | dead

inductive AV where
  | one (c : Cl)
  | agg (cs : List Cl)
  | tup (vs : List AV)

/-- a block of a call's own -/
inductive Bx where
  | fresh
  | gone
  | cells (cs : List Cl)
  | row (e size : Nat) (cs : List DV)
  | ice (cs : List DV)

def Bx.live : Bx → Bool
  | .cells _ | .row _ _ _ => true
  | _ => false
def Bx.known : Bx → Bool
  | .fresh => false
  | _ => true

def inK (k : IntKind) (n : Int) : Prop := (Lit.int k n).wf = true

mutual
def RepD (w : World) (V : Nat → Prop) : DV → Value → Prop
  | .int k n, v => v = .int k n ∧ inK k n
  | .bool b, v => v = .bool b
  | .str s, v => v = .string s ∧ s.size ≤ maxLen
  | .fn f, v => v = .func (.func f) #[] #[]
  | .sl len cells, v => ∃ A cap, v = .slice A len cap ∧ len ≤ cap ∧ cap ≤ maxLen ∧ (cells ≠ [] → ∃ g off, A = some ⟨g, off, none⟩ ∧ V g ∧ RepCells w V cells g off)
def RepCells (w : World) (V : Nat → Prop) : List DV → Nat → Nat → Prop
  | [], _, _ => True
  | d :: ds, g, off => (∃ u, w.cell? ⟨g, off, none⟩ = some u ∧ RepD w V d u) ∧ RepCells w V ds g (off + 1)
end

/-- what lies in the blocks V lies in the blocks V' of the later world -/
def Keeps (w : World) (V : Nat → Prop) (w' : World) (V' : Nat → Prop) : Prop :=
  ∀ g off u, V g → w.cell? ⟨g, off, none⟩ = some u → V' g ∧ w'.cell? ⟨g, off, none⟩ = some u

section
variable {w w' : World} {V V' : Nat → Prop}
mutual
theorem RepD.keep (h : Keeps w V w' V') : ∀ {d : DV} {v : Value}, RepD w V d v → RepD w' V' d v
  | .int _ _, _, hd => by simp only [RepD] at hd ⊢; exact hd
  | .bool _, _, hd => by simp only [RepD] at hd ⊢; exact hd
  | .str _, _, hd => by simp only [RepD] at hd ⊢; exact hd
  | .fn _, _, hd => by simp only [RepD] at hd ⊢; exact hd
  | .sl len cells, v, hd => by
    simp only [RepD] at hd ⊢
    obtain ⟨A, cap, h1, h2, h3, h4⟩ := hd
    refine ⟨A, cap, h1, h2, h3, fun hne => ?_⟩
    obtain ⟨g, off, e, hV, hc⟩ := h4 hne
    have hk := RepCells.keep h hV hc
    refine ⟨g, off, e, ?_, hk⟩
    cases cells with
    | nil => exact absurd rfl hne
    | cons d ds =>
      simp only [RepCells] at hc
      obtain ⟨⟨u, hu, _⟩, _⟩ := hc
      exact (h g off u hV hu).1
theorem RepCells.keep (h : Keeps w V w' V') : ∀ {cells : List DV} {g off : Nat}, V g → RepCells w V cells g off → RepCells w' V' cells g off
  | [], _, _, _, _ => by simp only [RepCells]
  | d :: ds, g, off, hV, hc => by
    simp only [RepCells] at hc ⊢
    obtain ⟨⟨u, hu, hd⟩, hr⟩ := hc
    exact ⟨⟨u, (h g off u hV hu).2, RepD.keep h hd⟩, RepCells.keep h hV hr⟩
end
theorem Keeps.refl (w : World) (V : Nat → Prop) : Keeps w V w V := fun _ _ _ hV hu => ⟨hV, hu⟩

theorem RepCells.at_ {cells : List DV} : ∀ {g off : Nat}, RepCells w V cells g off → ∀ i d, cells[i]? = some d → ∃ u, w.cell? ⟨g, off + i, none⟩ = some u ∧ RepD w V d u := by
  induction cells with
  | nil => intro g off _ i d hi; simp at hi
  | cons d ds ih =>
    intro g off hc i d' hi
    simp only [RepCells] at hc
    cases i with
    | zero => simp at hi; subst hi; exact hc.1
    | succ i =>
      obtain ⟨u, hu, hd⟩ := ih hc.2 i d' (by simpa using hi)
      exact ⟨u, by rw [← hu]; congr 2; omega, hd⟩
theorem RepCells.of_at {cells : List DV} : ∀ {g off : Nat}, (∀ i d, cells[i]? = some d → ∃ u, w.cell? ⟨g, off + i, none⟩ = some u ∧ RepD w V d u) → RepCells w V cells g off := by
  induction cells with
  | nil => intro g off _; simp only [RepCells]
  | cons d ds ih =>
    intro g off h
    simp only [RepCells]
    refine ⟨by simpa using h 0 d rfl, ih fun i d' hi => ?_⟩
    obtain ⟨u, hu, hd⟩ := h (i + 1) d' (by simpa using hi)
    exact ⟨u, by rw [← hu]; congr 2; omega, hd⟩
theorem RepCells.part {cells : List DV} {g off : Nat} (h : RepCells w V cells g off) (a m : Nat) : RepCells w V ((cells.drop a).take m) g (off + a) :=
  .of_at fun i d hi => by
    rw [List.getElem?_take] at hi
    split at hi
    · rw [List.getElem?_drop] at hi
      obtain ⟨u, hu, hd⟩ := h.at_ _ _ hi
      exact ⟨u, by rw [← hu]; congr 2; omega, hd⟩
    · cases hi
theorem RepCells.drop {cells : List DV} {g off : Nat} (h : RepCells w V cells g off) (a : Nat) : RepCells w V (cells.drop a) g (off + a) :=
  .of_at fun i d hi => by
    rw [List.getElem?_drop] at hi
    obtain ⟨u, hu, hd⟩ := h.at_ _ _ hi
    exact ⟨u, by rw [← hu]; congr 2; omega, hd⟩
theorem RepD.one {d : DV} {v : Value} (h : RepD w V d v) : v.oneCell' = true := by
  cases d <;> simp only [RepD] at h
  · rw [h.1]; rfl
  · rw [h]; rfl
  · rw [h.1]; rfl
  · obtain ⟨A, cap, rfl, _⟩ := h; rfl
  · rw [h]; rfl
theorem oneCell_cells {v : Value} (h : v.oneCell' = true) : v.cells = #[v] := by
  cases v <;> first | rfl | (simp [Value.oneCell'] at h)
end

/-! ### plain data: what stands for it is one value -/
def DV.plain : DV → Option Value
  | .int k n => some (.int k n)
  | .bool b => some (.bool b)
  | .str s => some (.string s)
  | .sl _ _ => none
  | .fn _ => none
theorem RepD.plain {w : World} {V : Nat → Prop} {d : DV} {v u : Value} (h : RepD w V d v) (hp : d.plain = some u) : v = u := by
  cases d <;> simp only [RepD] at h <;> simp [DV.plain] at hp
  · rw [h.1, ← hp]
  · rw [h, ← hp]
  · rw [h.1, ← hp]

/-! ### results and arguments -/
inductive RV where
  | d (v : DV)
  | agg (vs : List DV)
  | tup (vs : List RV)

def RepDs (w : World) (V : Nat → Prop) : List DV → List Value → Prop
  | [], [] => True
  | d :: ds, v :: vs => RepD w V d v ∧ RepDs w V ds vs
  | _, _ => False
mutual
def RepR (w : World) (V : Nat → Prop) : RV → Value → Prop
  | .d x, v => RepD w V x v
  | .agg xs, v => ∃ cs : Array Value, v = .agg cs ∧ RepDs w V xs cs.toList
  | .tup xs, v => ∃ vs : Array Value, v = .tuple vs ∧ RepRs w V xs vs.toList
def RepRs (w : World) (V : Nat → Prop) : List RV → List Value → Prop
  | [], [] => True
  | x :: xs, v :: vs => RepR w V x v ∧ RepRs w V xs vs
  | _, _ => False
end
section
variable {w w' : World} {V V' : Nat → Prop}
theorem RepDs.keep (h : Keeps w V w' V') : ∀ {ds : List DV} {vs : List Value}, RepDs w V ds vs → RepDs w' V' ds vs
  | [], [], _ => trivial
  | _ :: _, _ :: _, ⟨h1, h2⟩ => ⟨h1.keep h, RepDs.keep h h2⟩
  | [], _ :: _, h1 => h1.elim
  | _ :: _, [], h1 => h1.elim
mutual
theorem RepR.keep (h : Keeps w V w' V') : ∀ {r : RV} {v : Value}, RepR w V r v → RepR w' V' r v
  | .d _, _, hr => by simp only [RepR] at hr ⊢; exact hr.keep h
  | .agg _, _, hr => by
    simp only [RepR] at hr ⊢
    obtain ⟨cs, e, hd⟩ := hr
    exact ⟨cs, e, hd.keep h⟩
  | .tup xs, _, hr => by
    simp only [RepR] at hr ⊢
    obtain ⟨vs, e, hd⟩ := hr
    exact ⟨vs, e, RepRs.keep h hd⟩
theorem RepRs.keep (h : Keeps w V w' V') : ∀ {rs : List RV} {vs : List Value}, RepRs w V rs vs → RepRs w' V' rs vs
  | [], [], _ => by simp only [RepRs]
  | _ :: _, _ :: _, hr => by
    simp only [RepRs] at hr ⊢
    exact ⟨RepR.keep h hr.1, RepRs.keep h hr.2⟩
  | [], _ :: _, hr => by simp only [RepRs] at hr
  | _ :: _, [], hr => by simp only [RepRs] at hr
end
end

/-! ### no slice in it -/
def DV.flat : DV → Bool
  | .sl _ _ => false
  | _ => true
mutual
def RV.flat : RV → Bool
  | .d x => x.flat
  | .agg xs => xs.all DV.flat
  | .tup xs => RV.flats xs
def RV.flats : List RV → Bool
  | [] => true
  | x :: xs => x.flat && RV.flats xs
end
section
variable {w w' : World} {V V' : Nat → Prop}
theorem RepD.of_flat {d : DV} {v : Value} (hf : d.flat = true) (h : RepD w V d v) : RepD w' V' d v := by
  cases d <;> simp only [RepD] at h ⊢
  · exact h
  · exact h
  · exact h
  · simp [DV.flat] at hf
  · exact h
theorem RepDs.of_flat : ∀ {ds : List DV} {vs : List Value}, ds.all DV.flat = true → RepDs w V ds vs → RepDs w' V' ds vs
  | [], [], _, _ => trivial
  | _ :: _, _ :: _, hf, ⟨h1, h2⟩ => by
    simp only [List.all_cons, Bool.and_eq_true] at hf
    exact ⟨h1.of_flat hf.1, RepDs.of_flat hf.2 h2⟩
  | [], _ :: _, _, h1 => h1.elim
  | _ :: _, [], _, h1 => h1.elim
mutual
theorem RepR.of_flat : ∀ {r : RV} {v : Value}, r.flat = true → RepR w V r v → RepR w' V' r v
  | .d _, _, hf, hr => by simp only [RepR] at hr ⊢; simp only [RV.flat] at hf; exact hr.of_flat hf
  | .agg _, _, hf, hr => by
    simp only [RepR] at hr ⊢
    simp only [RV.flat] at hf
    obtain ⟨cs, e, hd⟩ := hr
    exact ⟨cs, e, hd.of_flat hf⟩
  | .tup xs, _, hf, hr => by
    simp only [RepR] at hr ⊢
    simp only [RV.flat] at hf
    obtain ⟨vs, e, hd⟩ := hr
    exact ⟨vs, e, RepRs.of_flat hf hd⟩
theorem RepRs.of_flat : ∀ {rs : List RV} {vs : List Value}, RV.flats rs = true → RepRs w V rs vs → RepRs w' V' rs vs
  | [], [], _, _ => by simp only [RepRs]
  | _ :: _, _ :: _, hf, hr => by
    simp only [RepRs] at hr ⊢
    simp only [RV.flats, Bool.and_eq_true] at hf
    exact ⟨RepR.of_flat hf.1 hr.1, RepRs.of_flat hf.2 hr.2⟩
  | [], _ :: _, _, hr => by simp only [RepRs] at hr
  | _ :: _, [], _, hr => by simp only [RepRs] at hr
end
end

/-- A CALL THAT IS A FUNCTION OF ITS DATA: what it returns stands for 'res', in old memory of the arguments or in new memory; old memory stays. -/
def Ans (P : Program) (f : FuncId) (args : List RV) (res : RV) : Prop :=
  ∀ (w : World) (S : Nat → Prop) (vs : Array Value), RepRs w S args vs.toList →
    Calls P f vs w fun e w' => ∃ v, e = .returned v ∧ RepR w' (fun g => S g ∨ w.heap.size ≤ g) res v ∧ Below w.heap.size w w'

/-- f hands back a row of its own making: nobody else holds it -/
def AnsO (P : Program) (f : FuncId) (args : List RV) (e size n : Nat) (ys : List DV) : Prop :=
  ∀ (w : World) (S : Nat → Prop) (vs : Array Value), RepRs w S args vs.toList →
    Calls P f vs w fun ed w' => ∃ v us, ed = .returned v ∧ w'.ownsRow w.heap.size e size v n us ∧ RepDs w' (fun g => (S g ∨ w.heap.size ≤ g) ∧ v.ownBlock ≠ some g) ys us ∧ ys.length = n * size ∧ Below w.heap.size w w'

/-- f hands back a thing that lies in new blocks alone -/
def AnsN (P : Program) (f : FuncId) (args : List RV) (res : RV) : Prop :=
  ∀ (w : World) (S : Nat → Prop) (vs : Array Value), RepRs w S args vs.toList →
    Calls P f vs w fun ed w' => ∃ v, ed = .returned v ∧ RepR w' (fun g => w.heap.size ≤ g) res v ∧ Below w.heap.size w w'

end Go.Proofs.Ytoljdijpmnadpaa
