/-
  The operations upon abstract values are right: memory of the call's own.
-/
import Derived.Test.YtoljdijpmnadpaaAbF
namespace Go.Proofs.Ytoljdijpmnadpaa
open Go.RowKit
set_option linter.unusedVariables false
set_option linter.unusedSimpArgs false

theorem sets_length {α : Type} : ∀ (ys xs : List α) (i : Nat), (sets xs i ys).length = xs.length
  | [], _, _ => rfl
  | y :: ys, xs, i => by rw [sets, sets_length ys]; simp
theorem sets_eq {α : Type} : ∀ (ys xs : List α) (i : Nat), i + ys.length ≤ xs.length → sets xs i ys = xs.take i ++ ys ++ xs.drop (i + ys.length)
  | [], xs, i, _ => by simp [sets]
  | y :: ys, xs, i, h => by
    have hi : i < xs.length := by simp at h; omega
    rw [sets, sets_eq ys _ _ (by simp at h ⊢; omega)]
    apply List.ext_getElem?
    intro j
    simp only [List.getElem?_append, List.length_append, List.length_take, List.length_set, List.getElem?_take, List.getElem?_drop, List.getElem?_set, List.length_cons]
    have h' : i + (ys.length + 1) ≤ xs.length := by simpa using h
    by_cases h1 : j < i
    · simp [h1, Nat.min_eq_left (show i ≤ xs.length by omega), Nat.min_eq_left (show i + 1 ≤ xs.length by omega), show j < i + 1 + ys.length by omega, show j < i + (ys.length + 1) by omega, show j < i + 1 by omega, show i ≠ j by omega]
    · by_cases h2 : j = i
      · subst h2
        simp [Nat.min_eq_left (show j ≤ xs.length by omega), Nat.min_eq_left (show j + 1 ≤ xs.length by omega), hi]
        intro hh; omega
      · by_cases h3 : j < i + 1 + ys.length
        · simp [h1, Nat.min_eq_left (show i ≤ xs.length by omega), Nat.min_eq_left (show i + 1 ≤ xs.length by omega), h3, show ¬ j < i + 1 by omega, show j < i + (ys.length + 1) by omega]
          rw [show j - i = (j - (i + 1)) + 1 from by omega, List.getElem?_cons_succ]
        · simp [h1, Nat.min_eq_left (show i ≤ xs.length by omega), Nat.min_eq_left (show i + 1 ≤ xs.length by omega), h3, show ¬ j < i + (ys.length + 1) by omega]
          rw [show i + 1 + ys.length + (j - (i + 1 + ys.length)) = i + (ys.length + 1) + (j - (i + (ys.length + 1))) from by omega, if_neg (by omega)]

section
variable {w : World} {V : Nat → Prop} {ι : Names} {bx : Nat → Bx}
theorem rep_set : ∀ {cs : List Cl} {vs : List Value}, RepCls w V ι bx cs vs → ∀ (i : Nat) {c : Cl} {v : Value}, RepCl w V ι bx c v → RepCls w V ι bx (cs.set i c) (vs.set i v)
  | [], [], _, _, _, _, _ => trivial
  | _ :: _, _ :: _, h, 0, _, _, hc => ⟨hc, h.2⟩
  | _ :: _, _ :: _, h, i + 1, _, _, hc => ⟨h.1, rep_set h.2 i hc⟩
  | [], _ :: _, h, _, _, _, _ => h.elim
  | _ :: _, [], h, _, _, _, _ => h.elim
theorem rep_sets : ∀ {xs : List Cl} {us : List Value}, RepCls w V ι bx xs us → ∀ {cs : List Cl} {vs : List Value}, RepCls w V ι bx cs vs → ∀ (i : Nat), RepCls w V ι bx (sets cs i xs) (sets vs i us)
  | [], [], _, _, _, h, _ => h
  | _ :: _, _ :: _, hx, _, _, h, i => rep_sets hx.2 (rep_set h i hx.1) (i + 1)
  | [], _ :: _, hx, _, _, _, _ => hx.elim
  | _ :: _, [], hx, _, _, _, _ => hx.elim
theorem rep_dset : ∀ {cs : List DV} {vs : List Value}, RepDs w V cs vs → ∀ (i : Nat) {c : DV} {v : Value}, RepD w V c v → RepDs w V (cs.set i c) (vs.set i v)
  | [], [], _, _, _, _, _ => trivial
  | _ :: _, _ :: _, h, 0, _, _, hc => ⟨hc, h.2⟩
  | _ :: _, _ :: _, h, i + 1, _, _, hc => ⟨h.1, rep_dset h.2 i hc⟩
  | [], _ :: _, h, _, _, _, _ => h.elim
  | _ :: _, [], h, _, _, _, _ => h.elim
theorem rep_dsets : ∀ {xs : List DV} {us : List Value}, RepDs w V xs us → ∀ {cs : List DV} {vs : List Value}, RepDs w V cs vs → ∀ (i : Nat), RepDs w V (sets cs i xs) (sets vs i us)
  | [], [], _, _, _, h, _ => h
  | _ :: _, _ :: _, hx, _, _, h, i => rep_dsets hx.2 (rep_dset h i hx.1) (i + 1)
  | [], _ :: _, hx, _, _, _, _ => hx.elim
  | _ :: _, [], hx, _, _, _, _ => hx.elim
theorem foldl_sets (off : Nat) : ∀ (l : List Value) (k : Nat) (cur : Array Value), ((l.zipIdx k).foldl (fun cs (p : Value × Nat) => cs.setIfInBounds (off + p.2) p.1) cur).toList = sets cur.toList (off + k) l
  | [], _, _ => rfl
  | v :: l, k, cur => by
    simp only [List.zipIdx_cons, List.foldl_cons, sets]
    rw [foldl_sets off l (k + 1)]
    simp [Nat.add_assoc]
def RepParts (w : World) (V : Nat → Prop) (ι : Names) (bx : Nat → Bx) : List (Nat × AV) → List (Nat × Value) → Prop
  | [], [] => True
  | p :: ps, q :: qs => p.1 = q.1 ∧ RepAV w V ι bx p.2 q.2 ∧ RepParts w V ι bx ps qs
  | _, _ => False
theorem fill_rep {place : Nat → Option (Nat × Nat)} : ∀ {ps : List (Nat × AV)} {qs : List (Nat × Value)}, RepParts w V ι bx ps qs → ∀ {cs cs' : List Cl} {cur : Array Value}, RepCls w V ι bx cs cur.toList →
    fillC place cs ps = some cs' → ∃ cur', Instr.fill place cur qs = some cur' ∧ RepCls w V ι bx cs' cur'.toList
  | [], [], _, cs, cs', cur, hc, hf => by
    simp only [fillC, Option.some.injEq] at hf
    subst hf
    exact ⟨cur, rfl, hc⟩
  | (i, x) :: ps, (j, v) :: qs, hp, cs, cs', cur, hc, hf => by
    obtain ⟨e, hx, hp⟩ := hp
    simp only at e; subst e
    simp only [fillC] at hf
    cases hpl : place i with
    | none => rw [hpl] at hf; cases hf
    | some os =>
      obtain ⟨off, size⟩ := os
      cases hcl : x.cls with
      | none => rw [hpl, hcl] at hf; cases hf
      | some xs =>
        rw [hpl, hcl] at hf
        simp only at hf
        split at hf
        · cases hf
        · rename_i hcond
          have hxs := rep_cls hx hcl
          have hl1 := rep_cls_len hxs
          have hl2 := rep_cls_len hc
          have hl1' : xs.length = v.cells.size := by simpa using hl1
          have hl2' : cs.length = cur.size := by simpa using hl2
          have hc' : RepCls w V ι bx (sets cs off xs) (v.cells.zipIdx.foldl (fun cs (c, j) => cs.setIfInBounds (off + j) c) cur).toList := by
            have := foldl_sets off v.cells.toList 0 cur
            rw [← Array.foldl_toList, Array.toList_zipIdx, this]
            exact rep_sets hxs hc _
          obtain ⟨cur', h1, h2⟩ := fill_rep hp hc' hf
          refine ⟨cur', ?_, h2⟩
          simp only [Instr.fill, hpl]
          rw [if_neg (by simp; omega)]
          exact h1
  | [], _ :: _, hp, _, _, _, _, _ => hp.elim
  | _ :: _, [], hp, _, _, _, _, _ => hp.elim
end

section
variable {P : Program} {o : Oper} {s : AS}
theorem rep_parts {w0 : World} {S : Scope} {n : Dom} {ι : Names} {a : Act} {w : World} (h : RepS w0 S n s ι a w) : ∀ (ps : List (Nat × Operand)),
    RepParts w (Seen S w0.heap.size s.bx ι) ι s.bx (ps.map fun p => (p.1, s.eval p.2)) (ps.map fun p => (p.1, a.eval p.2))
  | [] => trivial
  | p :: ps => ⟨rfl, h.eval p.2, rep_parts h ps⟩
theorem run_mapM_pure {P : Program} {α β : Type} (f : α → Sem β) (g : α → β) (w : World) : ∀ (l : List α), (∀ x ∈ l, (f x).run P w = .ok (g x) w) → (l.mapM f).run P w = .ok (l.map g) w
  | [], _ => by simp
  | x :: l, h => by
    rw [List.mapM_cons]
    simp only [Sem.run_bind, h x (by simp), Result.andThen_ok, run_mapM_pure f g w l (fun y hy => h y (by simp [hy])), Sem.run_pure, List.map_cons]
theorem right_build {t : TypeId} {parts : Array (Nat × Operand)} (ho : o.op = .build t parts) : Right P o s (opBuild P s.eval t parts) := by
  unfold opBuild
  split
  · rename_i z fs hz hu
    obtain ⟨i, hi, hzz⟩ := Option.bind_eq_some_iff.1 hz
    split
    · rename_i pl hpl
      cases hf : fillC (pl[·]?) (z.cells.toList.map Cl.ofV) (parts.toList.map fun p => (p.1, s.eval p.2)) with
      | none => exact .none
      | some cs =>
        refine .val fun w0 S n ι a w hr _ => ?_
        obtain ⟨cur', h1, h2⟩ := fill_rep (rep_parts hr parts.toList) (rep_ofV_cls z.cells.toList) hf
        refine ⟨.agg cur', ?_, by simp only [RepAV]; exact ⟨_, rfl, h2⟩⟩
        unfold placesOf at hpl
        split at hpl
        · rename_i hall
          injection hpl with hpl
          subst hpl
          have hm : (fs.mapM fun f => (do pure (f.offset, ← sizeOf f.type) : Sem (Nat × Nat))).run P w = .ok (fs.map fun f => (f.offset, P.cellsOf f.type)) w := by
            rw [Array.mapM_eq_mapM_toList]
            have := run_mapM_pure (P := P) (fun f : Field => (do pure (f.offset, ← sizeOf f.type) : Sem (Nat × Nat))) (fun f => (f.offset, P.cellsOf f.type)) w fs.toList (fun f hf => by
              have := Array.all_eq_true_iff_forall_mem.1 hall f (by simpa using hf)
              obtain ⟨i, hi⟩ := Option.isSome_iff_exists.1 this
              simp [run_sizeOf w hi])
            simp only [Sem.run_map, this, Result.andThen_ok]
            congr 1
            apply Array.ext'
            simp
          simp only [execOp, ho, Instr.build, Sem.run_bind, zeroValue, typeInfo, run_program, Result.andThen_ok, hi, Sem.run_pure, hzz, run_underlying hu, hm]
          simp only [Array.toList_map]
          rw [h1]
          simp
        · cases hpl
    · exact .none
  · rename_i z k e hz hu
    obtain ⟨i, hi, hzz⟩ := Option.bind_eq_some_iff.1 hz
    split
    · rename_i j hj
      cases hf : fillC (fun k => some (k * j.size, j.size)) (z.cells.toList.map Cl.ofV) (parts.toList.map fun p => (p.1, s.eval p.2)) with
      | none => exact .none
      | some cs =>
        refine .val fun w0 S n ι a w hr _ => ?_
        obtain ⟨cur', h1, h2⟩ := fill_rep (rep_parts hr parts.toList) (rep_ofV_cls z.cells.toList) hf
        refine ⟨.agg cur', ?_, by simp only [RepAV]; exact ⟨_, rfl, h2⟩⟩
        simp only [execOp, ho, Instr.build, Sem.run_bind, zeroValue, typeInfo, run_program, Result.andThen_ok, hi, Sem.run_pure, hzz, run_underlying hu, sizeOf, hj]
        simp only [Array.toList_map]
        rw [h1]
        simp
    · exact .none
  · exact .none
end
end Go.Proofs.Ytoljdijpmnadpaa
