/-
  The operations upon abstract values are right: loads, stores, make.
-/
import Derived.Test.YtoljdijpmnadpaaAbH
import Derived.Laws.MakeOwn
namespace Go.Proofs.Ytoljdijpmnadpaa
open Go.RowKit
set_option linter.unusedVariables false
set_option linter.unusedSimpArgs false

section
variable {P : Program} {o : Oper} {s : AS}
theorem known_of {w : World} {V : Nat → Prop} {ι : Names} {bx : Nat → Bx} {b off : Nat} {v : Value} (h : RepAV w V ι bx (.one (.ptr b off)) v) :
    (bx b).known = true ∧ ∃ g c, ι b = some (g, c) ∧ v = .pointer (some ⟨g, off, none⟩) := by simpa only [RepAV, RepCl] using h
theorem right_load {t : TypeId} {x : Operand} (ho : o.op = .load t x) : Right P o s (opLoad P s.eval t x) := by
  unfold opLoad
  split
  · rename_i b off hx
    intro e' he vc v bs hf
    injection he with he; subst he
    simp only [List.map_cons, List.map_nil] at hf ⊢
    cases hB : s.bx b with
    | cells cs =>
      rw [hB] at hf
      simp only at hf
      split at hf
      · rename_i g k hk
        split at hf
        · rename_i hle
          cases hag : aggOr g ((cs.drop off).take k) with
          | none => rw [hag] at hf; cases hf
          | some v' =>
            rw [hag] at hf
            simp only [Option.map_some, Option.some.injEq, Prod.mk.injEq] at hf
            obtain ⟨rfl, rfl, rfl⟩ := hf
            refine Sound.val fun w0 S n ι a w hr _ => ?_
            have h := hr.eval x
            rw [hx] at h
            obtain ⟨_, g', c', hι, ev⟩ := known_of h
            have hb := hr.bx b
            rw [hB] at hb
            obtain ⟨g2, c2, cur, T, h1, h2, h3⟩ := hb
            rw [h1] at hι
            simp only [Option.some.injEq, Prod.mk.injEq] at hι
            obtain ⟨rfl, rfl⟩ := hι
            have hp := rep_aggOr (rep_cls_part h3 off k) hag
            have hlen := rep_cls_len h3
            have hk' : kindOf P t = some (g, ((cur.toList.drop off).take k).length) := by
              rw [hk]; congr 2; simp at hlen ⊢; omega
            refine ⟨_, ?_, hp.1⟩
            have hrun := run_loadVar_of (P := P) hk' (w := w) (b := g2) (o := off) (fun j u hj => by
              rw [cell_of_row w g2 (off + j) cur T (0, 0) h2]
              rw [List.getElem?_take] at hj
              split at hj
              · simpa using hj
              · cases hj)
            simp [execOp, ho, ev, Instr.loadAt, Instr.sureAddr, hrun]
        · cases hf
      · cases hf
    | row e size xs =>
      rw [hB] at hf
      simp only at hf
      split at hf
      · rename_i g zs hz
        cases hag : aggOr g ((leavesAt zs xs off).map .d) with
        | none => rw [hag] at hf; cases hf
        | some v' =>
          rw [hag] at hf
          simp only [Option.map_some, Option.some.injEq, Prod.mk.injEq] at hf
          obtain ⟨rfl, rfl, rfl⟩ := hf
          refine Sound.val fun w0 S n ι a w hr hvc => ?_
          have h := hr.eval x
          rw [hx] at h
          obtain ⟨_, g', c', hι, ev⟩ := known_of h
          have hb := hr.bx b
          rw [hB] at hb
          rcases hb with ⟨h1, _⟩ | ⟨g2, cap, cur, h1, h2, h3, h4, h5⟩
          · rw [h1] at hι; cases hι
          rw [h1] at hι
          simp only [Option.some.injEq, Prod.mk.injEq] at hι
          obtain ⟨rfl, rfl⟩ := hι
          obtain ⟨us, e1, e2, e3⟩ := leaves_ds h5 zs off hvc
          have hp := rep_aggOr (ι := ι) (bx := s.bx) (rep_of_ds e3) hag
          have hk' : kindOf P t = some (g, us.length) := by rw [e1]; exact leafZ_kind hz
          refine ⟨_, ?_, hp.1⟩
          have hrun := run_loadVar_of (P := P) hk' (w := w) (b := g2) (o := off) (fun j u hj => by
            rw [cell_of_row w g2 (off + j) cur e (0, 0) h2]
            have := e2 j u hj
            rw [List.getElem?_take] at this
            split at this
            · simpa using this
            · cases this)
          simp [execOp, ho, ev, Instr.loadAt, Instr.sureAddr, hrun]
      · cases hf
    | fresh => rw [hB] at hf; cases hf
    | gone => rw [hB] at hf; cases hf
    | ice _ => rw [hB] at hf; cases hf
  · rename_i xs off hx
    split
    · rename_i g zs hz
      cases hag : aggOr g ((leavesAt zs xs off).map .d) with
      | none => exact .none
      | some v' =>
        refine .val fun w0 S n ι a w hr hvc => ?_
        have h := hr.eval x
        rw [hx] at h
        simp only [RepAV, RepCl] at h
        obtain ⟨g', o', ev, hl⟩ := h
        obtain ⟨us, e1, e2, e3⟩ := leaves_lie hl.cells zs off hvc
        have hp := rep_aggOr (ι := ι) (bx := s.bx) (rep_of_ds e3) hag
        have hk' : kindOf P t = some (g, us.length) := by rw [e1]; exact leafZ_kind hz
        refine ⟨_, ?_, hp.1⟩
        have hrun := run_loadVar_of (P := P) hk' (w := w) (b := g') (o := o' + off) e2
        simp [execOp, ho, ev, Instr.loadAt, Instr.sureAddr, hrun]
    · exact .none
  · exact .none

theorem run_storeVar_of {P : Program} {t : TypeId} {i : TypeInfo} (hi : P.info? t = some i) {w : World} {g off : Nat} {v : Value} {cur : Array Value} {T : TypeId} (hl : v.cells.size = i.size)
    (hg : w.heap[g]? = some (.cells cur T (0, 0))) (hle : off + v.cells.size ≤ cur.size) (h1 : ∀ u ∈ v.cells.toList, u.oneCell' = true) :
    (storeVar t ⟨g, off, none⟩ v).run P w = .ok () (w.setRow g (cur.toList.take off ++ v.cells.toList ++ cur.toList.drop (off + v.cells.size)).toArray) := by
  have h := run_storeCells_at P g off T v.cells.toList 0 cur w hg (by simpa using hle) h1
  simp only [Nat.add_zero, Array.length_toList] at h
  simp [storeVar, sizeOf, typeInfo, hi, hl]
  rw [h, hl, List.append_assoc]
theorem cls_one {w : World} {V : Nat → Prop} {ι : Names} {bx : Nat → Bx} : ∀ {cs : List Cl} {vs : List Value}, RepCls w V ι bx cs vs → cs.all Cl.ok = true → ∀ u ∈ vs, u.oneCell' = true
  | [], [], _, _, u, hu => by simp at hu
  | c :: cs, v :: vs, h, ha, u, hu => by
    simp only [List.all_cons, Bool.and_eq_true] at ha
    rcases List.mem_cons.1 hu with rfl | hu
    · exact cl_one h.1 ha.1
    · exact cls_one h.2 ha.2 u hu
  | [], _ :: _, h, _, _, _ => h.elim
  | _ :: _, [], h, _, _, _ => h.elim
theorem right_store {t : TypeId} {x y : Operand} (ho : o.op = .store t x y) : Right P o s (opStore P s.eval t x y) := by
  unfold opStore
  split
  · rename_i i b off xs hi hx hy
    split
    · rename_i hcond
      obtain ⟨hl, hok⟩ := hcond
      intro e' he vc v bs hf
      injection he with he; subst he
      simp only [List.map_cons, List.map_nil] at hf ⊢
      cases hB : s.bx b with
      | cells cs =>
        rw [hB] at hf
        simp only at hf
        split at hf
        · rename_i hle
          simp only [Option.some.injEq, Prod.mk.injEq] at hf
          obtain ⟨rfl, rfl, rfl⟩ := hf
          intro w0 S n ι a w K Q hr _ hK
          have h := hr.eval x
          rw [hx] at h
          obtain ⟨_, g', c', hι, ev⟩ := known_of h
          have hb := hr.bx b
          rw [hB] at hb
          obtain ⟨g2, c2, cur, T, h1, h2, h3⟩ := hb
          rw [h1] at hι
          simp only [Option.some.injEq, Prod.mk.injEq] at hι
          obtain ⟨rfl, rfl⟩ := hι
          have hyv := rep_cls (hr.eval y) hy
          have l1 := rep_cls_len hyv
          have l2 := rep_cls_len h3
          have l1' : xs.length = (a.eval y).cells.size := by simpa using l1
          have l2' : cs.length = cur.size := by simpa using l2
          have hrun := run_storeVar_of (P := P) hi (w := w) (g := g2) (off := off) (v := a.eval y) (by omega) h2 (by omega) (cls_one hyv hok)
          unfold Oper.wp
          have : (execOp a.eval o).run P w = .ok .skip (w.setRow g2 (cur.toList.take off ++ (a.eval y).cells.toList ++ cur.toList.drop (off + (a.eval y).cells.size)).toArray) := by
            simp only [execOp, ho, ev, Instr.storeAt, Instr.sureAddr, Sem.run_bind, Sem.run_pure, Result.andThen_ok, hrun]
          rw [this]
          have hlive : (s.bx b).live = true := by rw [hB]; rfl
          have hstay : Stays ι s.bx ι (s.setB b (.cells (sets cs off xs))).bx := fun b' hk => by
            refine ⟨?_, rfl⟩
            by_cases e : b' = b
            · simp [AS.setB, e, Bx.known]
            · simpa [AS.setB, e] using hk
          have hseen : Seen S w0.heap.size (s.setB b (.cells (sets cs off xs))).bx ι = Seen S w0.heap.size s.bx ι := by
            funext g
            unfold Seen
            have : ∀ b', ((s.setB b (.cells (sets cs off xs))).bx b').live = (s.bx b').live := fun b' => by
              by_cases e : b' = b
              · subst e; simp [AS.setB, hB, Bx.live]
              · simp [AS.setB, e]
            simp only [this]
          have hkeep : Keeps w (Seen S w0.heap.size s.bx ι) (w.setRow g2 (cur.toList.take off ++ (a.eval y).cells.toList ++ cur.toList.drop (off + (a.eval y).cells.size)).toArray) (Seen S w0.heap.size s.bx ι) := by
            intro g off' u hV hu
            refine ⟨hV, ?_⟩
            have : g ≠ g2 := fun e => hV.2 b c2 hlive (by rw [e]; exact h1)
            rw [← hu]
            simp [World.cell?, setRow_other w g2 g _ this]
          have hnew := hr.write (B := .cells (sets cs off xs)) (w' := w.setRow g2 (cur.toList.take off ++ (a.eval y).cells.toList ++ cur.toList.drop (off + (a.eval y).cells.size)).toArray) hlive h1 (by simp [World.setRow]) (fun g hg => setRow_other w g2 g _ hg) ⟨rfl, rfl, rfl⟩ rfl (by
            rw [hseen]
            refine ⟨g2, c2, _, T, h1, setRow_heap w g2 cur _ T (0, 0) h2, ?_⟩
            have hss := rep_sets hyv h3 off
            rw [sets_eq _ cur.toList _ (by simp; omega)] at hss
            have := hss.keep hstay hkeep
            simpa using this)
          exact hK ι undef _ hnew (by simp only [RepAV]; exact ⟨_, rfl, by simp only [RepAVs]⟩)
        · cases hf
      | row e size ds =>
        rw [hB] at hf
        simp only at hf
        split at hf
        · rename_i ys hys
          simp only [Option.some.injEq, Prod.mk.injEq] at hf
          obtain ⟨rfl, rfl, rfl⟩ := hf
          intro w0 S n ι a w K Q hr hle hK
          have h := hr.eval x
          rw [hx] at h
          obtain ⟨_, g', c', hι, ev⟩ := known_of h
          have hb := hr.bx b
          rw [hB] at hb
          rcases hb with ⟨h1, _⟩ | ⟨g2, cap, cur, h1, h2, h3, h4, h5⟩
          · rw [h1] at hι; cases hι
          rw [h1] at hι
          simp only [Option.some.injEq, Prod.mk.injEq] at hι
          obtain ⟨rfl, rfl⟩ := hι
          have hyv := rep_cls (hr.eval y) hy
          have hyd := rep_dvs hyv hys
          have l1 := rep_cls_len hyv
          have l3 := rep_ds_len hyd
          have l2 := rep_ds_len h5
          have l1' : xs.length = (a.eval y).cells.size := by simpa using l1
          have l3' : ys.length = (a.eval y).cells.size := by simpa using l3
          have l2' : ds.length ≤ cur.size := by simp at l2; omega
          have hrun := run_storeVar_of (P := P) hi (w := w) (g := g2) (off := off) (v := a.eval y) (by omega) h2 (by omega) (cls_one hyv hok)
          unfold Oper.wp
          have : (execOp a.eval o).run P w = .ok .skip (w.setRow g2 (cur.toList.take off ++ (a.eval y).cells.toList ++ cur.toList.drop (off + (a.eval y).cells.size)).toArray) := by
            simp only [execOp, ho, ev, Instr.storeAt, Instr.sureAddr, Sem.run_bind, Sem.run_pure, Result.andThen_ok, hrun]
          rw [this]
          have hlive : (s.bx b).live = true := by rw [hB]; rfl
          have hseen : Seen S w0.heap.size (s.setB b (.row e size (sets ds off ys))).bx ι = Seen S w0.heap.size s.bx ι := by
            funext g
            unfold Seen
            have : ∀ b', ((s.setB b (.row e size (sets ds off ys))).bx b').live = (s.bx b').live := fun b' => by
              by_cases e : b' = b
              · subst e; simp [AS.setB, hB, Bx.live]
              · simp [AS.setB, e]
            simp only [this]
          have hkeep : Keeps w (Seen S w0.heap.size s.bx ι) (w.setRow g2 (cur.toList.take off ++ (a.eval y).cells.toList ++ cur.toList.drop (off + (a.eval y).cells.size)).toArray) (Seen S w0.heap.size s.bx ι) := by
            intro g off' u hV hu
            refine ⟨hV, ?_⟩
            have : g ≠ g2 := fun e => hV.2 b cap hlive (by rw [e]; exact h1)
            rw [← hu]
            simp [World.cell?, setRow_other w g2 g _ this]
          have hnew := hr.write (B := .row e size (sets ds off ys)) (w' := w.setRow g2 (cur.toList.take off ++ (a.eval y).cells.toList ++ cur.toList.drop (off + (a.eval y).cells.size)).toArray) hlive h1 (by simp [World.setRow]) (fun g hg => setRow_other w g2 g _ hg) ⟨rfl, rfl, rfl⟩ rfl (by
            rw [hseen]
            refine .inr ⟨g2, cap, _, h1, setRow_heap w g2 cur _ e (0, 0) h2, h3, by simp; omega, ?_⟩
            have hss := (rep_dsets hyd h5 off).keep hkeep
            rw [sets_length]
            have e1 : sets (cur.toList.take ds.length) off (a.eval y).cells.toList = (sets cur.toList off (a.eval y).cells.toList).take ds.length := by
              have key : ∀ (us vs : List Value) (i m : Nat), sets (vs.take m) i us = (sets vs i us).take m := by
                intro us
                induction us with
                | nil => intro vs i m; rfl
                | cons u us ih =>
                  intro vs i m
                  simp only [sets]
                  rw [← ih, List.take_set]
              exact key _ _ _ _
            rw [e1, sets_eq _ cur.toList _ (by simp; omega)] at hss
            simpa using hss)
          exact hK ι undef _ hnew (by simp only [RepAV]; exact ⟨_, rfl, by simp only [RepAVs]⟩)
        · cases hf
      | fresh => rw [hB] at hf; cases hf
      | gone => rw [hB] at hf; cases hf
      | ice _ => rw [hB] at hf; cases hf
    · exact .none
  · exact .none
theorem repl_length {α : Type} (n : Nat) (z : List α) : (repl n z).length = n * z.length := by simp [repl]
theorem repl_at {α : Type} (z : List α) (hz : 0 < z.length) : ∀ (n k : Nat), k < n * z.length → (repl n z)[k]? = z[k % z.length]?
  | 0, k, h => by simp at h
  | n + 1, k, h => by
    have e : repl (n + 1) z = z ++ repl n z := by simp [repl, List.replicate_succ]
    rw [e]
    by_cases hk : k < z.length
    · rw [List.getElem?_append_left hk, Nat.mod_eq_of_lt hk]
    · rw [List.getElem?_append_right (by omega), repl_at z hz n (k - z.length) (by rw [Nat.add_mul] at h; omega)]
      congr 1
      rw [Nat.mod_eq_sub_mod (show k ≥ z.length by omega)]
theorem repl_one {α : Type} (n : Nat) (z : List α) (x : α) (hz : z.length = 1) : repl n z = List.replicate n (z.headD x) := by
  match z, hz with
  | [y], _ => simp [repl, List.flatten_replicate_singleton]
theorem right_makeSlice {t : TypeId} {l c : Operand} (ho : o.op = .makeSlice t l c) : Right P o s (opMakeSlice P s.eval o.dst t l c) := by
  unfold opMakeSlice
  split
  · rename_i d e hd hu
    split
    · rename_i i k n k' m hi hl hc
      split
      · rename_i z hz
        split
        · rename_i zs hzs
          split
          · rename_i hcond
            obtain ⟨c1, c2⟩ := hcond
            refine .new rfl fun w0 S _ ι a w hr hvc hf => ?_
            obtain ⟨v1, v2, v3, v4⟩ := hvc
            have hL := (rep_int (hr.eval l) hl)
            have hC := (rep_int (hr.eval c) hc)
            have hm1 : m ≤ 9223372036854775807 := by simpa [maxLen] using v3
            have wL : IntKind.i64.wrap n = n := IntWalk.i64_in _ ⟨by omega, by omega⟩
            have wC : IntKind.i64.wrap m = m := IntWalk.i64_in _ ⟨by omega, by omega⟩
            have hz' := rep_dvs (w := w) (V := Seen S w0.heap.size s.bx ι) (ι := ι) (bx := s.bx) (rep_ofV_cls z.cells.toList) hzs
            have hzl : z.cells.size = i.size := by have := rep_ds_len hz'; simp at this; omega
            have hcells : ∀ V : Nat → Prop, RepDs w V zs z.cells.toList → RepDs w V (if i.size = 1 then List.replicate n.toNat (zs.headD (.bool false)) else repl n.toNat zs) ((madeCells z.cells (m.toNat * i.size)).toList.take (if i.size = 1 then List.replicate n.toNat (zs.headD (.bool false)) else repl n.toNat zs).length) := by
              intro V hzV
              have e0 : (if i.size = 1 then List.replicate n.toNat (zs.headD (.bool false)) else repl n.toNat zs) = repl n.toNat zs := by
                split
                · rw [repl_one n.toNat zs (.bool false) (by omega)]
                · rfl
              rw [e0]
              have hnm : n.toNat * zs.length ≤ m.toNat * i.size := by rw [c1]; exact Nat.mul_le_mul_right _ (by omega)
              rw [rep_ds_iff]
              refine ⟨by simp [repl_length, size_madeCells]; omega, fun j d v hj hv => ?_⟩
              have hjlt : j < n.toNat * zs.length := by
                have := (List.getElem?_eq_some_iff.1 hj).1
                rwa [repl_length] at this
              rw [repl_at zs (by omega) _ _ hjlt] at hj
              rw [List.getElem?_take, repl_length, if_pos hjlt] at hv
              have hv' : (madeCells z.cells (m.toNat * i.size))[j]? = some v := by simpa using hv
              have hmod : j % i.size < z.cells.size := by rw [hzl]; exact Nat.mod_lt _ c2
              simp [madeCells, show j < m.toNat * i.size by omega] at hv'
              rw [hzl] at hv'
              rw [c1] at hj
              obtain ⟨v', h1, h2⟩ := rep_ds_at hzV _ _ hj
              have : v' = v := by
                rw [← hv']
                rw [getElem!_pos z.cells (j % i.size) hmod]
                have h1' : z.cells[j % i.size]? = some v' := by simpa using h1
                rw [Array.getElem?_eq_getElem hmod] at h1'
                injection h1' with h1'
                exact h1'.symm
              rw [← this]; exact h2
            refine ⟨some (w.heap.size, m.toNat), w.alloc (.cells (madeCells z.cells (m.toNat * i.size)) e), .slice (some ⟨w.heap.size, 0, none⟩) n.toNat m.toNat, ?_, below_alloc w _, ?_, ?_⟩
            · have hr' := run_make (P := P) w t e i z hu hi hz k k' n m v1 v2 v4 hm1
              simp [execOp, ho, hL.1, hC.1, hr']
            · rintro g c ⟨⟩; simp
            · intro ι' V' hn hk hp hkn
              refine ⟨.inr ⟨w.heap.size, m.toNat, _, hp, heap_alloc_new w _, by omega, by simp [size_madeCells], (hcells _ hz').keep hk⟩, ?_⟩
              · simp only [RepAV, RepCl]
                exact ⟨hkn, .inr ⟨_, _, hp, rfl, by omega⟩⟩
          · exact .none
        · exact .none
      · exact .none
    · exact .none
  · exact .none
end
end Go.Proofs.Ytoljdijpmnadpaa
