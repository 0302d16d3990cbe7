/-
  The operations upon abstract values are right: new blocks, loads, stores.
-/
import Derived.Test.YtoljdijpmnadpaaAbG
namespace Go.Proofs.Ytoljdijpmnadpaa
open Go.RowKit
set_option linter.unusedVariables false
set_option linter.unusedSimpArgs false

section
variable {w0 : World} {S : Scope} {n : Dom} {s : AS} {ι : Names} {a : Act} {w : World}
theorem new_stays {bx : Nat → Bx} {b0 : Nat} (hf : bx b0 = .fresh) {B : Bx} {p : Option (Nat × Nat)} : Stays ι bx (fun b => if b = b0 then p else ι b) (fun b => if b = b0 then B else bx b) := by
  intro b hk
  have hne : b ≠ b0 := fun e => by subst e; rw [hf] at hk; simp [Bx.known] at hk
  simp only [if_neg hne]
  exact ⟨hk, trivial⟩
theorem new_keeps {B0 : Nat} {bx : Nat → Bx} {b0 : Nat} {w' : World} {B : Bx} {p : Option (Nat × Nat)} (hb : Below w.heap.size w w')
    (hp : ∀ g c, p = some (g, c) → w.heap.size ≤ g ∧ g < w'.heap.size) : Keeps w (Seen S B0 bx ι) w' (Seen S B0 (fun b => if b = b0 then B else bx b) (fun b => if b = b0 then p else ι b)) := by
  intro g off u hV hu
  have hlt : g < w.heap.size := World.block_lt_of_cell? w _ hu
  refine ⟨⟨hV.1, fun b c hl e => ?_⟩, by rw [← hu]; exact hb.cell (p := ⟨g, off, none⟩) hlt⟩
  by_cases eb : b = b0
  · simp only [if_pos eb] at e
    have := (hp g c e).1
    omega
  · simp only [if_neg eb] at e hl
    exact hV.2 b c hl e
end

theorem Right.new {P : Program} {o : Oper} {s : AS} {vc : Prop} {d : Nat} {B : Bx} {v : AV} (hkn : B.known = true)
    (h : ∀ (w0 : World) (S : Scope) (n : Dom) (ι : Names) (a : Act) (w : World), RepS w0 S n s ι a w → vc → s.bx d = .fresh → ∃ (p : Option (Nat × Nat)) (w' : World) (u : Value),
      (execOp a.eval o).run P w = .ok (.value u) w' ∧ Below w.heap.size w w' ∧ (∀ g c, p = some (g, c) → w.heap.size ≤ g ∧ g < w'.heap.size) ∧
      ∀ (ι' : Names) (V' : Nat → Prop), Stays ι s.bx ι' (s.setB d B).bx → Keeps w (Seen S w0.heap.size s.bx ι) w' V' → ι' d = p → ((s.setB d B).bx d).known = true →
        RepBx w' V' ι' (s.setB d B).bx d B ∧ RepAV w' V' ι' (s.setB d B).bx v u) : Right P o s (some (.new vc d B v)) := by
  intro e' he vc' v' bs hf
  injection he with he; subst he
  simp only [Eff.new, List.map_cons, List.map_nil] at hf ⊢
  cases hfr : s.bx d <;> rw [hfr] at hf <;> simp only [Option.some.injEq, Prod.mk.injEq, reduceCtorEq] at hf
  obtain ⟨rfl, rfl, rfl⟩ := hf
  intro w0 S n ι a w K Q hr hvc hK
  obtain ⟨p, w', u, h1, h2, h3, h4⟩ := h w0 S n ι a w hr hvc hfr
  obtain ⟨h5, h6⟩ := h4 (fun b => if b = d then p else ι b) _ (new_stays hfr) (new_keeps (S := S) (B0 := w0.heap.size) (b0 := d) (B := B) h2 h3) (by simp) (by simpa [AS.setB] using hkn)
  unfold Oper.wp
  rw [h1]
  exact hK _ u w' (hr.new_ hfr h2 hkn h3 h5) h6

section
variable {P : Program} {o : Oper} {s : AS}
theorem below_alloc (w : World) (ob : Obj) : Below w.heap.size w (w.alloc ob) := (Below.refl _ _).alloc (Nat.le_refl _) _
theorem right_alloc {t : TypeId} (ho : o.op = .alloc t) : Right P o s (opAlloc P o.dst t) := by
  unfold opAlloc
  split
  · rename_i d z hd hz
    obtain ⟨i, hi, hzz⟩ := Option.bind_eq_some_iff.1 hz
    refine .new rfl fun w0 S n ι a w hr _ hf => ⟨some (w.heap.size, 0), w.alloc (.cells z.cells t), .pointer (some ⟨w.heap.size, 0, none⟩), ?_, below_alloc w _, ?_, ?_⟩
    · simp [execOp, ho, Instr.alloc, zeroValue, typeInfo, hi, hzz, newVar, newRow]
    · rintro g c ⟨⟩; simp
    · intro ι' V' hn hk hp hkn
      refine ⟨⟨w.heap.size, 0, z.cells, t, hp, heap_alloc_new w _, rep_ofV_cls _⟩, ?_⟩
      simp only [RepAV, RepCl]
      exact ⟨hkn, _, _, hp, rfl⟩
  · exact .none
theorem right_box {t : TypeId} {x : Operand} (ho : o.op = .box t x) : Right P o s (opBox s.eval o.dst x) := by
  unfold opBox
  split
  · rename_i d cs hd hx
    refine .new rfl fun w0 S n ι a w hr _ hf => ⟨some (w.heap.size, 0), w.alloc (.cells (a.eval x).cells t), .pointer (some ⟨w.heap.size, 0, none⟩), ?_, below_alloc w _, ?_, ?_⟩
    · simp [execOp, ho, Instr.box, newVar, newRow]
    · rintro g c ⟨⟩; simp
    · intro ι' V' hn hk hp hkn
      refine ⟨⟨w.heap.size, 0, _, t, hp, heap_alloc_new w _, (rep_cls (hr.eval x) hx).keep hn hk⟩, ?_⟩
      simp only [RepAV, RepCl]
      exact ⟨hkn, _, _, hp, rfl⟩
  · exact .none
theorem rep_zeros {w : World} {V : Nat → Prop} {ι : Names} {bx : Nat → Bx} (z : Array Value) (n : Nat) : RepCls w V ι bx (zerosOf z n) ((Array.range n).map (z[· % z.size]!)).toList := by
  rw [rep_cls_iff]
  refine ⟨by simp [zerosOf], fun i c v hc hv => ?_⟩
  have hi : i < n := by
    have := (List.getElem?_eq_some_iff.1 hc).1
    simpa [zerosOf] using this
  simp [zerosOf, hi] at hc
  simp [hi] at hv
  subst hc hv
  have : z[i % z.size]?.getD default = z[i % z.size]! := by simp [getElem!_def]; cases z[i % z.size]? <;> rfl
  rw [this]
  exact rep_ofV_cl _
theorem right_buildSlice {t : TypeId} {len : Nat} {parts : Array (Nat × Operand)} (ho : o.op = .buildSlice t len parts) : Right P o s (opBuildSlice P s.eval o.dst t len parts) := by
  unfold opBuildSlice
  split
  · rename_i d e hd hu
    split
    · rename_i i hi
      split
      · rename_i z hz
        split
        · rename_i hcond
          obtain ⟨c1, c2, c3⟩ := hcond
          split
          · rename_i cs hfill
            split
            · rename_i vs hvs
              refine .new rfl fun w0 S n ι a w hr _ hf => ?_
              obtain ⟨cur', h1, h2⟩ := fill_rep (rep_parts hr parts.toList) (rep_zeros z.cells (len * i.size)) hfill
              have hsz : (sizeOf e).run P w = .ok i.size w := by simp [sizeOf, typeInfo, hi]
              have hlen0 : cur'.size = len * i.size := by
                have := rep_cls_len h2
                have h3 : cs.length = (zerosOf z.cells (len * i.size)).length := by
                  clear h1 h2 hvs this
                  generalize zerosOf z.cells (len * i.size) = cs0 at hfill
                  revert cs0
                  induction (parts.toList.map fun p => (p.1, s.eval p.2)) with
                  | nil => intro cs0 h; simp only [fillC, Option.some.injEq] at h; rw [h]
                  | cons p ps ih =>
                    intro cs0 h
                    obtain ⟨j, x⟩ := p
                    simp only [fillC] at h
                    split at h
                    · split at h
                      · cases h
                      · rw [ih _ h, sets_length]
                    · cases h
                rw [h3] at this
                simpa [zerosOf] using this.symm
              refine ⟨some (w.heap.size, len), w.alloc (.cells cur' e), .slice (some ⟨w.heap.size, 0, none⟩) len len, ?_, below_alloc w _, ?_, ?_⟩
              · have hle : ¬ 2 ^ 24 < len * i.size := by omega
                by_cases h0 : len * i.size = 0
                · have hmap : ((Array.range (len * i.size)).map fun k => (#[] : Array Value)[k % (#[] : Array Value).size]!) = (Array.range (len * i.size)).map fun k => z.cells[k % z.cells.size]! := by rw [h0]; simp
                  rw [← hmap] at h1
                  simp only [execOp, ho, Instr.buildSlice, Sem.run_bind, run_underlying hu, Result.andThen_ok, hsz, gt_iff_lt, if_neg hle, Sem.run_pure, if_pos h0, Array.toList_map]
                  rw [h1]
                  simp [newRow]
                · simp only [execOp, ho, Instr.buildSlice, Sem.run_bind, run_underlying hu, Result.andThen_ok, hsz, gt_iff_lt, if_neg hle, Sem.run_pure, if_neg h0, Array.toList_map, zeroValue, typeInfo, run_program, hi, hz]
                  rw [h1]
                  simp [newRow]
              · rintro g c ⟨⟩; simp
              · intro ι' V' hn hk hp hkn
                have hlm : len ≤ maxLen := by
                  have : len * 1 ≤ len * i.size := Nat.mul_le_mul_left _ c2
                  unfold maxLen; omega
                refine ⟨.inr ⟨w.heap.size, len, cur', hp, heap_alloc_new w _, hlm, hlen0, ?_⟩, ?_⟩
                · have := rep_dvs (h2.keep hn hk) hvs
                  rw [rep_ds_len this, List.take_length]
                  exact this
                · simp only [RepAV, RepCl]
                  exact ⟨hkn, .inr ⟨_, _, hp, rfl, Nat.le_refl _⟩⟩
            · exact .none
          · exact .none
        · exact .none
      · exact .none
    · exact .none
  · exact .none
end
end Go.Proofs.Ytoljdijpmnadpaa
