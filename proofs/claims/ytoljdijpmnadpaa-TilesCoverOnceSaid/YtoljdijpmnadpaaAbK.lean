/-
  The operations upon abstract values are right: calls; all operations.
-/
import Derived.Test.YtoljdijpmnadpaaAbJ
namespace Go.Proofs.Ytoljdijpmnadpaa
open Go.RowKit
set_option linter.unusedVariables false
set_option linter.unusedSimpArgs false

/-- a row is never written again: it may be seen -/
def ices (s : AS) : List Nat → AS
  | [] => s
  | b :: bs => ices (s.setB b (s.bx b).freeze) bs
theorem RepCells.of_row {w : World} {V : Nat → Prop} {cur : Array Value} {g : Nat} {e : TypeId} {xs : List DV} (hg : w.heap[g]? = some (.cells cur e (0, 0))) (h : RepDs w V xs (cur.toList.take xs.length)) : RepCells w V xs g 0 := by
  refine .of_at fun i d hi => ?_
  obtain ⟨u, hu, hd⟩ := rep_ds_at h i d hi
  refine ⟨u, ?_, hd⟩
  rw [Nat.zero_add, cell_of_row w g i cur e (0, 0) hg]
  rw [List.getElem?_take] at hu
  split at hu
  · simpa using hu
  · cases hu
theorem RepS.freeze {w0 : World} {S : Scope} {n : Dom} {s : AS} {ι : Names} {a : Act} {w : World} (h : RepS w0 S n s ι a w) (b : Nat) : RepS w0 S n (s.setB b (s.bx b).freeze) ι a w := by
  cases hB : s.bx b with
  | row e size xs =>
    simp only [Bx.freeze]
    have hlive : ∀ x, ((s.setB b (.ice xs)).bx x).live = true → (s.bx x).live = true ∧ x ≠ b := fun x hl => by
      by_cases e : x = b
      · subst e; simp [AS.setB, Bx.live] at hl
      · simp only [AS.setB, if_neg e] at hl; exact ⟨hl, e⟩
    have hkeep : Keeps w (Seen S w0.heap.size s.bx ι) w (Seen S w0.heap.size (s.setB b (.ice xs)).bx ι) := fun g off u hV hu => ⟨⟨hV.1, fun x c hl e => hV.2 x c (hlive x hl).1 e⟩, hu⟩
    have hstay : Stays ι s.bx ι (s.setB b (.ice xs)).bx := fun x hk => by
      refine ⟨?_, rfl⟩
      by_cases e : x = b
      · simp [AS.setB, e, Bx.known]
      · simpa [AS.setB, e] using hk
    refine h.move (bx' := (s.setB b (.ice xs)).bx) h.bel (keeps_same (Nat.le_refl _) fun _ _ _ _ => rfl) hstay hkeep (fun x => ?_) (fun x g c hl e => h.own x g c (hlive x hl).1 e) (fun x x' g c c' hl hl' hxx e => h.dist x x' g c c' (hlive x hl).1 (hlive x' hl').1 hxx e)
    by_cases e : x = b
    · subst e
      right
      have hb := h.bx x
      rw [hB] at hb
      have : (s.setB x (.ice xs)).bx x = .ice xs := by simp [AS.setB]
      rw [this]
      rcases hb with ⟨h1, h2⟩ | ⟨g, cap, cur, h1, h2, h3, h4, h5⟩
      · exact .inl ⟨h1, h2⟩
      · refine .inr ⟨g, cap, h1, fun _ => ⟨⟨.inr (h.own x g cap (by rw [hB]; rfl) h1).1, fun y c hl e' => ?_⟩, (RepCells.of_row h2 (h5.keep hkeep))⟩, h3⟩
        have hy := hlive y hl
        exact h.dist x y g cap c (by rw [hB]; rfl) hy.1 (Ne.symm hy.2) h1 e'
    · left
      exact ⟨by simp [AS.setB, e], fun _ _ _ _ => rfl⟩
  | fresh => simp only [Bx.freeze]; rw [show s.setB b .fresh = s from by unfold AS.setB; congr 1; funext x; split <;> simp_all]; exact h
  | gone => simp only [Bx.freeze]; rw [show s.setB b .gone = s from by unfold AS.setB; congr 1; funext x; split <;> simp_all]; exact h
  | cells cs => simp only [Bx.freeze]; rw [show s.setB b (.cells cs) = s from by unfold AS.setB; congr 1; funext x; split <;> simp_all]; exact h
  | ice cs => simp only [Bx.freeze]; rw [show s.setB b (.ice cs) = s from by unfold AS.setB; congr 1; funext x; split <;> simp_all]; exact h

/-! ### arguments -/
section
variable {w : World} {V V' : Nat → Prop} {ι : Names} {bx : Nat → Bx}
/-- what a row of the call's own shows -/
def Shows (w : World) (V' : Nat → Prop) (ι : Names) (b : Nat) (xs : List DV) : Prop :=
  ∀ g c, ι b = some (g, c) → c ≤ maxLen ∧ Lies w V' xs g 0
theorem shows_nil {b n : Nat} {xs : List DV} {v : Value} (h : RepCl w V ι bx (.ref b n) v) (hs : Shows w V' ι b xs) (hn : ι b = none → xs = []) : RepD w V' (.sl n xs) v := by
  obtain ⟨_, h⟩ := h
  simp only [RepD]
  rcases h with ⟨h1, rfl, rfl⟩ | ⟨g, cap, h1, rfl, hle⟩
  · exact ⟨none, 0, rfl, Nat.le_refl _, Nat.zero_le _, fun e => absurd (hn h1) e⟩
  · obtain ⟨h2, h3⟩ := hs g cap h1
    exact ⟨_, cap, rfl, hle, h2, fun hne => ⟨g, 0, rfl, h3 hne⟩⟩
theorem rv_cl (hk : Keeps w V w V') {look : Nat → Option (List DV)} {c : Cl} {v : Value} {d : DV} (h : RepCl w V ι bx c v) (hl : ∀ b ∈ c.refs, ∀ xs, look b = some xs → Shows w V' ι b xs ∧ (ι b = none → xs = [])) (hc : c.rv look = some d) : RepD w V' d v := by
  cases c with
  | ref b n =>
    simp only [Cl.rv] at hc
    cases hb : look b with
    | none => rw [hb] at hc; cases hc
    | some xs =>
      rw [hb] at hc
      simp only [Option.map_some, Option.some.injEq] at hc
      subst hc
      obtain ⟨h1, h2⟩ := hl b (by simp [Cl.refs]) xs hb
      exact shows_nil h h1 h2
  | d x => exact (rep_dv_cl h hc).keep hk
  | lit u => exact (rep_dv_cl h hc).keep hk
  | nil => exact (rep_dv_cl h hc).keep hk
  | ptr b off => cases hc
  | vp xs off => cases hc
  | clo f cs => cases hc
  | dead => cases hc
theorem rv_cls (hk : Keeps w V w V') {look : Nat → Option (List DV)} : ∀ {cs : List Cl} {vs : List Value} {ds : List DV}, RepCls w V ι bx cs vs → (∀ c ∈ cs, ∀ b ∈ c.refs, ∀ xs, look b = some xs → Shows w V' ι b xs ∧ (ι b = none → xs = [])) → Cl.rvs look cs = some ds → RepDs w V' ds vs
  | [], [], ds, _, _, hc => by simp only [Cl.rvs, Option.some.injEq] at hc; subst hc; trivial
  | c :: cs, v :: vs, ds, h, hl, hc => by
    simp only [Cl.rvs] at hc
    cases h1 : c.rv look with
    | none => rw [h1] at hc; cases hc
    | some d =>
      cases h2 : Cl.rvs look cs with
      | none => rw [h1, h2] at hc; cases hc
      | some ds' =>
        rw [h1, h2] at hc
        simp only [Option.some.injEq] at hc
        subst hc
        exact ⟨rv_cl hk h.1 (hl c (by simp)) h1, rv_cls hk h.2 (fun c' hc' => hl c' (by simp [hc'])) h2⟩
  | [], _ :: _, _, h, _, _ => h.elim
  | _ :: _, [], _, h, _, _ => h.elim
end
theorem rv_av {w : World} {V V' : Nat → Prop} {ι : Names} {bx : Nat → Bx} (hk : Keeps w V w V') {look : Nat → Option (List DV)} {x : AV} {v : Value} {r : RV} (hf : x.flat = true) (h : RepAV w V ι bx x v)
    (hl : ∀ b ∈ x.refs, ∀ xs, look b = some xs → Shows w V' ι b xs ∧ (ι b = none → xs = [])) (hx : x.rv look = some r) : RepR w V' r v := by
  cases x with
  | one c =>
    simp only [AV.rv] at hx
    cases h1 : c.rv look with
    | none => rw [h1] at hx; cases hx
    | some d =>
      rw [h1] at hx
      simp only [Option.map_some, Option.some.injEq] at hx
      subst hx
      simp only [RepAV] at h
      simp only [RepR]
      exact rv_cl hk h hl h1
  | agg cs =>
    simp only [AV.rv] at hx
    cases h1 : Cl.rvs look cs with
    | none => rw [h1] at hx; cases hx
    | some ds =>
      rw [h1] at hx
      simp only [Option.map_some, Option.some.injEq] at hx
      subst hx
      simp only [RepAV] at h
      obtain ⟨cur, e, hc⟩ := h
      simp only [RepR]
      exact ⟨cur, e, rv_cls hk hc (fun c hc b hb => hl b (by simp only [AV.refs, List.mem_flatMap]; exact ⟨c, hc, hb⟩)) h1⟩
  | tup vs => cases hf
theorem rv_avs {w : World} {V V' : Nat → Prop} {ι : Names} {bx : Nat → Bx} (hk : Keeps w V w V') {look : Nat → Option (List DV)} : ∀ {xs : List AV} {vs : List Value} {rs : List RV}, xs.all AV.flat = true → RepAVs w V ι bx xs vs →
    (∀ x ∈ xs, ∀ b ∈ x.refs, ∀ ys, look b = some ys → Shows w V' ι b ys ∧ (ι b = none → ys = [])) → AV.rvs look xs = some rs → RepRs w V' rs vs
  | [], [], rs, _, _, _, hx => by simp only [AV.rvs, Option.some.injEq] at hx; subst hx; simp only [RepRs]
  | x :: xs, v :: vs, rs, hf, h, hl, hx => by
    simp only [List.all_cons, Bool.and_eq_true] at hf
    simp only [RepAVs] at h
    simp only [AV.rvs] at hx
    cases h1 : x.rv look with
    | none => rw [h1] at hx; cases hx
    | some r =>
      cases h2 : AV.rvs look xs with
      | none => rw [h1, h2] at hx; cases hx
      | some rs' =>
        rw [h1, h2] at hx
        simp only [Option.some.injEq] at hx
        subst hx
        simp only [RepRs]
        exact ⟨rv_av hk hf.1 h.1 (hl x (by simp)) h1, rv_avs hk hf.2 h.2 (fun y hy => hl y (by simp [hy])) h2⟩
  | [], _ :: _, _, _, h, _, _ => by simp only [RepAVs] at h
  | _ :: _, [], _, _, h, _, _ => by simp only [RepAVs] at h
mutual
theorem rep_av {w : World} {V : Nat → Prop} {ι : Names} {bx : Nat → Bx} : ∀ {r : RV} {v : Value}, RepR w V r v → RepAV w V ι bx r.av v
  | .d x, v, h => by simp only [RepR] at h; simp only [RV.av, RepAV, RepCl]; exact h
  | .agg xs, v, h => by
    simp only [RepR] at h
    obtain ⟨cs, e, h⟩ := h
    simp only [RV.av, RepAV]
    exact ⟨cs, e, rep_of_ds h⟩
  | .tup xs, v, h => by
    simp only [RepR] at h
    obtain ⟨vs, e, h⟩ := h
    simp only [RV.av, RepAV]
    exact ⟨vs, e, rep_avs h⟩
theorem rep_avs {w : World} {V : Nat → Prop} {ι : Names} {bx : Nat → Bx} : ∀ {rs : List RV} {vs : List Value}, RepRs w V rs vs → RepAVs w V ι bx (RV.avs rs) vs
  | [], [], _ => by simp only [RV.avs, RepAVs]
  | _ :: _, _ :: _, h => by simp only [RepRs] at h; simp only [RV.avs, RepAVs]; exact ⟨rep_av h.1, rep_avs h.2⟩
  | [], _ :: _, h => by simp only [RepRs] at h
  | _ :: _, [], h => by simp only [RepRs] at h
end

theorem lookIn_map {f : Nat → Bx} : ∀ {rs : List Nat} {b : Nat} {ys : List DV}, lookIn rs (rs.map f) b = some ys → b ∈ rs ∧ inside (f b) = some ys
  | [], b, ys, h => by simp [lookIn] at h
  | r :: rs, b, ys, h => by
    simp only [List.map_cons, lookIn] at h
    split at h
    · rename_i e; subst e; exact ⟨by simp, h⟩
    · obtain ⟨h1, h2⟩ := lookIn_map h
      exact ⟨by simp [h1], h2⟩
theorem setBs_tm : ∀ (bs : List Nat) (Bs : List Bx) (s : AS), (s.setBs bs Bs).tm = s.tm
  | [], _, _ => by simp [AS.setBs]
  | _ :: _, [], _ => by simp [AS.setBs]
  | b :: bs, B :: Bs, s => by rw [AS.setBs, setBs_tm bs Bs]; rfl
theorem setBs_map (f : Nat → Bx) : ∀ (rs : List Nat) (s : AS) (b : Nat), (s.setBs rs (rs.map f)).bx b = if b ∈ rs then f b else s.bx b
  | [], s, b => by simp [AS.setBs]
  | r :: rs, s, b => by
    simp only [List.map_cons, AS.setBs]
    rw [setBs_map f rs]
    by_cases h : b ∈ rs
    · simp [h]
    · by_cases e : b = r
      · subst e; simp [h, AS.setB]
      · simp [h, e, AS.setB]
theorem AS.ext' {s s' : AS} (h1 : s.tm = s'.tm) (h2 : s.bx = s'.bx) : s = s' := by cases s; cases s'; simp_all
theorem setBs_same (rs : List Nat) (s : AS) : s.setBs rs (rs.map s.bx) = s := AS.ext' (setBs_tm _ _ _) (by funext b; rw [setBs_map]; split <;> rfl)
theorem freeze_freeze (B : Bx) : B.freeze.freeze = B.freeze := by cases B <;> rfl
theorem RepS.freezes {w0 : World} {S : Scope} {n : Dom} {s : AS} {ι : Names} {a : Act} {w : World} (h : RepS w0 S n s ι a w) : ∀ (rs : List Nat) (s2 : AS), (∀ b, s2.bx b = s.bx b ∨ s2.bx b = (s.bx b).freeze) → RepS w0 S n s2 ι a w →
    RepS w0 S n (s2.setBs rs (rs.map fun b => (s.bx b).freeze)) ι a w
  | [], s2, _, h2 => by simpa [AS.setBs] using h2
  | r :: rs, s2, hs, h2 => by
    simp only [List.map_cons, AS.setBs]
    have e : s2.setB r (s.bx r).freeze = s2.setB r (s2.bx r).freeze := by
      rcases hs r with h3 | h3
      · rw [h3]
      · rw [h3, freeze_freeze]
    refine RepS.freezes h rs _ (fun b => ?_) (by rw [e]; exact h2.freeze r)
    by_cases e' : b = r
    · subst e'; right; simp [AS.setB]
    · simp only [AS.setB, if_neg e']; exact hs b

section
variable {P : Program} {o : Oper} {s : AS}
theorem right_callP {Γ : Gam} {f : FuncId} {args : Array Operand} (ho : enters P f = true → ∀ (w0 : World) (S : Scope) (n : Dom) (ι : Names) (a : Act) (w : World), RepS w0 S n s ι a w → (execOp a.eval o).run P w = .ok (.enter f (args.map a.eval)) w) : Right P o s (opCallP P Γ f (args.toList.map s.eval)) := by
  unfold opCallP
  split
  · rename_i hen
    simp only [Bool.and_eq_true] at hen
    obtain ⟨hen, hflat⟩ := hen
    intro e' he vc v bs hf
    injection he with he; subst he
    simp only at hf ⊢
    generalize hrs : (args.toList.map s.eval).flatMap AV.refs = rs at hf ⊢
    cases h1 : AV.rvs (lookIn rs (rs.map s.bx)) (args.toList.map s.eval) with
    | none => rw [h1] at hf; cases hf
    | some rvs =>
      rw [h1] at hf
      simp only at hf
      cases h2 : Γ f rvs with
      | none => rw [h2] at hf; cases hf
      | some r =>
        rw [h2] at hf
        simp only [Option.some.injEq, Prod.mk.injEq] at hf
        obtain ⟨rfl, rfl, rfl⟩ := hf
        intro w0 S n ι a w K Q hr hans hK
        -- the state in which all rows that are handed over are seen
        have hr' := RepS.freezes hr rs s (fun b => .inl rfl) hr
        generalize hs' : s.setBs rs (rs.map fun b => (s.bx b).freeze) = s' at hr'
        have htm : s'.tm = s.tm := by rw [← hs']; exact setBs_tm _ _ _
        have heval : s'.eval = s.eval := by funext x; cases x <;> simp [AS.eval, htm]
        have hargs : RepAVs w (Seen S w0.heap.size s'.bx ι) ι s'.bx (args.toList.map s.eval) (args.toList.map a.eval) := by
          clear h1 hrs hflat
          induction args.toList with
          | nil => simp only [List.map_nil, RepAVs]
          | cons x xs ih =>
            simp only [List.map_cons, RepAVs]
            exact ⟨by rw [← heval]; exact hr'.eval x, ih⟩
        have hlook : ∀ x ∈ args.toList.map s.eval, ∀ b ∈ x.refs, ∀ ys, lookIn rs (rs.map s.bx) b = some ys → Shows w (Seen S w0.heap.size s'.bx ι) ι b ys ∧ (ι b = none → ys = []) := by
          intro x hx b hb ys hys
          obtain ⟨hbr, hin⟩ := lookIn_map hys
          have hb' := hr'.bx b
          have e1 : s'.bx b = (s.bx b).freeze := by rw [← hs', setBs_map, if_pos hbr]
          have e2 : s'.bx b = .ice ys := by
            rw [e1]
            revert hin
            cases s.bx b <;> intro hin <;> simp only [inside, Option.some.injEq, reduceCtorEq] at hin <;> subst hin <;> rfl
          rw [e2] at hb'
          rcases hb' with ⟨g1, g2⟩ | ⟨g, cap, g1, g2, g3⟩
          · exact ⟨fun g c e => (by rw [g1] at e; cases e), fun _ => g2⟩
          · refine ⟨fun g' c e => ?_, fun e => (by rw [g1] at e; cases e)⟩
            rw [g1] at e
            simp only [Option.some.injEq, Prod.mk.injEq] at e
            obtain ⟨rfl, rfl⟩ := e
            exact ⟨g3, g2⟩
        have hrep := rv_avs (Keeps.refl _ _) hflat hargs hlook h1
        have hcall := hans w (Seen S w0.heap.size s'.bx ι) (args.map a.eval) (by simpa using hrep)
        have hrun := ho hen w0 S _ ι a w hr
        unfold Oper.wp
        rw [hrun, Oper.upon_enter]
        refine hcall.mono fun e w' hq => ?_
        obtain ⟨u, rfl, hu, hbel⟩ := hq
        show K (a.put o.dst u) w'
        cases hfl : r.flat with
        | true =>
          simp only [hfl, if_true] at hK
          rw [setBs_same] at hK
          exact hK ι u w' (hr.later hbel) (rep_av (hu.of_flat hfl))
        | false =>
          simp only [hfl, Bool.false_eq_true, if_false] at hK
          have e3 : ((rs.map s.bx).map Bx.freeze) = rs.map fun b => (s.bx b).freeze := by simp [List.map_map, Function.comp_def]
          rw [e3, hs'] at hK
          refine hK ι u w' (hr'.later hbel) (rep_av (hu.keep fun g off x hV hx => ⟨?_, hx⟩))
          rcases hV with hV | hV
          · exact hV
          · refine ⟨.inr (.inl (Nat.le_trans hr'.bel.size hV)), fun b c hl e => ?_⟩
            have := hr'.own b g c hl e
            omega
  · exact .none

theorem right_callN {Γ : Gam} {f : FuncId} {args : Array Operand} (ho : enters P f = true → ∀ (w0 : World) (S : Scope) (n : Dom) (ι : Names) (a : Act) (w : World), RepS w0 S n s ι a w → (execOp a.eval o).run P w = .ok (.enter f (args.map a.eval)) w) : Right P o s (opCallN P Γ f (args.toList.map s.eval)) := by
  unfold opCallN
  split
  · rename_i hen
    simp only [Bool.and_eq_true] at hen
    obtain ⟨hen, hflat⟩ := hen
    intro e' he vc v bs hf
    injection he with he; subst he
    simp only at hf ⊢
    generalize hrs : (args.toList.map s.eval).flatMap AV.refs = rs at hf ⊢
    cases h1 : AV.rvs (lookIn rs (rs.map s.bx)) (args.toList.map s.eval) with
    | none => rw [h1] at hf; cases hf
    | some rvs =>
      rw [h1] at hf
      simp only at hf
      cases h2 : Γ f rvs with
      | none => rw [h2] at hf; cases hf
      | some r =>
        rw [h2] at hf
        simp only [Option.some.injEq, Prod.mk.injEq] at hf
        obtain ⟨rfl, rfl, rfl⟩ := hf
        intro w0 S n ι a w K Q hr hans hK
        -- the state in which all rows that are handed over are seen
        have hr' := RepS.freezes hr rs s (fun b => .inl rfl) hr
        generalize hs' : s.setBs rs (rs.map fun b => (s.bx b).freeze) = s' at hr'
        have htm : s'.tm = s.tm := by rw [← hs']; exact setBs_tm _ _ _
        have heval : s'.eval = s.eval := by funext x; cases x <;> simp [AS.eval, htm]
        have hargs : RepAVs w (Seen S w0.heap.size s'.bx ι) ι s'.bx (args.toList.map s.eval) (args.toList.map a.eval) := by
          clear h1 hrs hflat
          induction args.toList with
          | nil => simp only [List.map_nil, RepAVs]
          | cons x xs ih =>
            simp only [List.map_cons, RepAVs]
            exact ⟨by rw [← heval]; exact hr'.eval x, ih⟩
        have hlook : ∀ x ∈ args.toList.map s.eval, ∀ b ∈ x.refs, ∀ ys, lookIn rs (rs.map s.bx) b = some ys → Shows w (Seen S w0.heap.size s'.bx ι) ι b ys ∧ (ι b = none → ys = []) := by
          intro x hx b hb ys hys
          obtain ⟨hbr, hin⟩ := lookIn_map hys
          have hb' := hr'.bx b
          have e1 : s'.bx b = (s.bx b).freeze := by rw [← hs', setBs_map, if_pos hbr]
          have e2 : s'.bx b = .ice ys := by
            rw [e1]
            revert hin
            cases s.bx b <;> intro hin <;> simp only [inside, Option.some.injEq, reduceCtorEq] at hin <;> subst hin <;> rfl
          rw [e2] at hb'
          rcases hb' with ⟨g1, g2⟩ | ⟨g, cap, g1, g2, g3⟩
          · exact ⟨fun g c e => (by rw [g1] at e; cases e), fun _ => g2⟩
          · refine ⟨fun g' c e => ?_, fun e => (by rw [g1] at e; cases e)⟩
            rw [g1] at e
            simp only [Option.some.injEq, Prod.mk.injEq] at e
            obtain ⟨rfl, rfl⟩ := e
            exact ⟨g3, g2⟩
        have hrep := rv_avs (Keeps.refl _ _) hflat hargs hlook h1
        have hcall := hans w (Seen S w0.heap.size s'.bx ι) (args.map a.eval) (by simpa using hrep)
        have hrun := ho hen w0 S _ ι a w hr
        unfold Oper.wp
        rw [hrun, Oper.upon_enter]
        refine hcall.mono fun e w' hq => ?_
        obtain ⟨u, rfl, hu, hbel⟩ := hq
        show K (a.put o.dst u) w'
        rw [setBs_same] at hK
        refine hK ι u w' (hr.later hbel) (rep_av (hu.keep fun g off x hV hx => ⟨⟨.inr (.inl (Nat.le_trans hr.bel.size hV)), fun b c hl e => ?_⟩, hx⟩))
        have := hr.own b g c hl e
        omega
  · exact .none

theorem setBs_snoc (d : Nat) (B : Bx) : ∀ (rs : List Nat) (Bs : List Bx) (s : AS), rs.length = Bs.length → s.setBs (rs ++ [d]) (Bs ++ [B]) = (s.setBs rs Bs).setB d B
  | [], [], s, _ => by simp [AS.setBs]
  | r :: rs, b :: Bs, s, h => by
    simp only [List.cons_append, AS.setBs]
    exact setBs_snoc d B rs Bs _ (by simpa using h)
  | [], _ :: _, _, h => by simp at h
  | _ :: _, [], _, h => by simp at h
theorem right_callO {Γ : Gam} {d f e size : Nat} {args : Array Operand} (ho : enters P f = true → ∀ (w0 : World) (S : Scope) (n : Dom) (ι : Names) (a : Act) (w : World), RepS w0 S n s ι a w → (execOp a.eval o).run P w = .ok (.enter f (args.map a.eval)) w) (hd : o.dst = some d) : Right P o s (opCallO P Γ d f e size (args.toList.map s.eval)) := by
  unfold opCallO
  split
  · rename_i hen
    simp only [Bool.and_eq_true] at hen
    obtain ⟨hen, hflat⟩ := hen
    intro e' he vc v bs hf
    injection he with he; subst he
    simp only at hf ⊢
    generalize hrs : (args.toList.map s.eval).flatMap AV.refs = rs at hf ⊢
    have eL : ((rs ++ [d]).map s.bx).getLast? = some (s.bx d) := by simp
    have eD : ((rs ++ [d]).map s.bx).dropLast = rs.map s.bx := by simp
    rw [eL, eD] at hf
    cases hfr : s.bx d <;> rw [hfr] at hf <;> simp only [reduceCtorEq] at hf
    cases h1 : AV.rvs (lookIn rs (rs.map s.bx)) (args.toList.map s.eval) with
    | none => rw [h1] at hf; cases hf
    | some rvs =>
      rw [h1] at hf
      simp only at hf
      split at hf
      · rename_i n ys h2
        simp only [Option.some.injEq, Prod.mk.injEq] at hf
        obtain ⟨rfl, rfl, rfl⟩ := hf
        intro w0 S k ι a w K Q hr hans hK
        -- the state in which all rows that are handed over are seen
        have hr' := RepS.freezes hr rs s (fun b => .inl rfl) hr
        generalize hs' : s.setBs rs (rs.map fun b => (s.bx b).freeze) = s' at hr'
        have htm : s'.tm = s.tm := by rw [← hs']; exact setBs_tm _ _ _
        have heval : s'.eval = s.eval := by funext x; cases x <;> simp [AS.eval, htm]
        have hargs : RepAVs w (Seen S w0.heap.size s'.bx ι) ι s'.bx (args.toList.map s.eval) (args.toList.map a.eval) := by
          clear h1 hrs hflat
          induction args.toList with
          | nil => simp only [List.map_nil, RepAVs]
          | cons x xs ih =>
            simp only [List.map_cons, RepAVs]
            exact ⟨by rw [← heval]; exact hr'.eval x, ih⟩
        have hlook : ∀ x ∈ args.toList.map s.eval, ∀ b ∈ x.refs, ∀ ys, lookIn rs (rs.map s.bx) b = some ys → Shows w (Seen S w0.heap.size s'.bx ι) ι b ys ∧ (ι b = none → ys = []) := by
          intro x hx b hb ys hys
          obtain ⟨hbr, hin⟩ := lookIn_map hys
          have hb' := hr'.bx b
          have e1 : s'.bx b = (s.bx b).freeze := by rw [← hs', setBs_map, if_pos hbr]
          have e2 : s'.bx b = .ice ys := by
            rw [e1]
            revert hin
            cases s.bx b <;> intro hin <;> simp only [inside, Option.some.injEq, reduceCtorEq] at hin <;> subst hin <;> rfl
          rw [e2] at hb'
          rcases hb' with ⟨g1, g2⟩ | ⟨g, cap, g1, g2, g3⟩
          · exact ⟨fun g c e => (by rw [g1] at e; cases e), fun _ => g2⟩
          · refine ⟨fun g' c e => ?_, fun e => (by rw [g1] at e; cases e)⟩
            rw [g1] at e
            simp only [Option.some.injEq, Prod.mk.injEq] at e
            obtain ⟨rfl, rfl⟩ := e
            exact ⟨g3, g2⟩
        have hrep := rv_avs (Keeps.refl _ _) hflat hargs hlook h1
        have hcall := hans w (Seen S w0.heap.size s'.bx ι) (args.map a.eval) (by simpa using hrep)
        have hrun := ho hen w0 S _ ι a w hr
        have e3 : ((rs.map s.bx).map Bx.freeze) = rs.map fun b => (s.bx b).freeze := by simp [List.map_map, Function.comp_def]
        rw [e3, setBs_snoc _ _ _ _ _ (by simp), hs'] at hK
        have hf' : s'.bx d = .fresh := by
          rw [← hs', setBs_map]
          split
          · rw [hfr]; rfl
          · exact hfr
        unfold Oper.wp
        rw [hrun, Oper.upon_enter]
        refine hcall.mono fun ed w' hq => ?_
        obtain ⟨u, us, rfl, hown, hus, hlen, hbel⟩ := hq
        show K (a.put o.dst u) w'
        have hp : ∀ g c, nameOf u = some (g, c) → w.heap.size ≤ g ∧ g < w'.heap.size := fun g c hp => by
          refine ⟨?_, (own_value hown g c hp).2⟩
          rcases hown.2 with ⟨rfl, rfl⟩ | ⟨g', cap, cur, rfl, q1, q2, q3, q4, q5, q6⟩
          · cases hp
          · simp only [nameOf, Option.some.injEq, Prod.mk.injEq] at hp
            obtain ⟨rfl, rfl⟩ := hp
            exact q1
        have hk : Keeps w' (fun g => (Seen S w0.heap.size s'.bx ι g ∨ w.heap.size ≤ g) ∧ u.ownBlock ≠ some g) w' (Seen S w0.heap.size (s'.setB d (.row e size ys)).bx (fun z => if z = d then nameOf u else ι z)) := by
          intro g off x hV hx
          obtain ⟨hV, hne⟩ := hV
          refine ⟨⟨?_, fun b c hl hb => ?_⟩, hx⟩
          · rcases hV with hV | hV
            · exact hV.1
            · exact .inr (.inl (Nat.le_trans hr'.bel.size hV))
          · by_cases hbd : b = d
            · subst hbd
              simp only [if_true] at hb
              exact hne (own_value hown g c hb).1
            · simp only [if_neg hbd] at hb
              simp only [AS.setB, if_neg hbd] at hl
              rcases hV with hV | hV
              · exact hV.2 b c hl hb
              · have := hr'.own b g c hl hb
                omega
        have hrep := rep_appended (d := d) (ι' := fun z => if z = d then nameOf u else ι z) (bx' := (s'.setB d (.row e size ys)).bx) (by simp [AS.setB, Bx.known]) hown (hus.keep hk) hlen rfl (by simp)
        exact hK _ u w' (hr'.new_ hf' hbel rfl hp hrep.1) hrep.2
      · cases hf
  · exact .none
theorem rep_caps {w : World} {V : Nat → Prop} {ι : Names} {bx : Nat → Bx} : ∀ {xs : List AV} {vs : List Value} {cs : List Cap}, RepAVs w V ι bx xs vs → capsOf xs = some cs → RepCaps ι bx w V cs vs
  | [], [], cs, _, hc => by simp only [capsOf, Option.some.injEq] at hc; subst hc; trivial
  | x :: xs, v :: vs, cs, h, hc => by
    simp only [RepAVs] at h
    simp only [capsOf] at hc
    cases h1 : capOf x with
    | none => rw [h1] at hc; cases hc
    | some c =>
      cases h2 : capsOf xs with
      | none => rw [h1, h2] at hc; cases hc
      | some cs' =>
        rw [h1, h2] at hc
        simp only [Option.some.injEq] at hc
        subst hc
        refine ⟨?_, rep_caps h.2 h2⟩
        have hx := h.1
        unfold capOf at h1
        split at h1
        · simp only [Option.some.injEq] at h1
          subst h1
          simp only [RepAV] at hx
          exact hx
        · rename_i c' _
          split at h1
          · rename_i d hd
            simp only [Option.some.injEq] at h1
            subst h1
            simp only [RepAV] at hx
            exact rep_dv_cl hx hd
          · cases h1
        · cases h1
  | [], _ :: _, _, h, _ => by simp only [RepAVs] at h
  | _ :: _, [], _, h, _ => by simp only [RepAVs] at h
theorem right_makeFunc {fn : Fn} {first captured : Array Operand} (ho : o.op = .makeFunc fn first captured) : Right P o s (opMakeFunc fn (first.toList.map s.eval) (captured.toList.map s.eval)) := by
  have hreps : ∀ (w0 : World) (S : Scope) (n : Dom) (ι : Names) (a : Act) (w : World), RepS w0 S n s ι a w → RepAVs w (Seen S w0.heap.size s.bx ι) ι s.bx (captured.toList.map s.eval) (captured.toList.map a.eval) := by
    intro w0 S n ι a w hr
    induction captured.toList with
    | nil => simp only [List.map_nil, RepAVs]
    | cons x xs ih =>
      simp only [List.map_cons, RepAVs]
      exact ⟨hr.eval x, ih⟩
  have hfirst : first.toList.map s.eval = [] → ∀ a : Act, first.map a.eval = #[] := fun h a => by
    have : first.toList = [] := by simpa using h
    have : first = #[] := by rw [← Array.toArray_toList (xs := first), this]
    subst this; simp
  unfold opMakeFunc
  split
  · rename_i f h1 h2
    refine .val fun w0 S n ι a w hr _ => ⟨.func (.func f) #[] #[], ?_, by simp only [RepAV, RepCl, RepD]⟩
    have hc := rep_caps (hreps w0 S n ι a w hr) h2
    have hc0 : captured.toList.map a.eval = [] := by
      cases hl : captured.toList.map a.eval with
      | nil => rfl
      | cons v vs => rw [hl] at hc; exact hc.elim
    have : captured.toList = [] := by simpa using hc0
    have : captured = #[] := by rw [← Array.toArray_toList (xs := captured), this]
    subst this
    simp [execOp, ho, hfirst h1 a, Instr.makeFunc]
  · rename_i f cs h0 h1 h2
    refine .val fun w0 S n ι a w hr _ => ⟨.func (.func f) #[] (captured.map a.eval), ?_, ?_⟩
    · simp [execOp, ho, hfirst h1 a, Instr.makeFunc]
    · simp only [RepAV, RepCl]
      exact ⟨_, rfl, by simpa using rep_caps (hreps w0 S n ι a w hr) h2⟩
  · exact .none
theorem run_enter {f : FuncId} (hen : enters P f = true) (args : Array Value) (w : World) : (callFunc f args).run P w = .ok (.enter f args) w := by
  unfold enters at hen
  split at hen
  · rename_i fn hfn
    simp only [Bool.and_eq_true, Bool.not_eq_true'] at hen
    have hne : ¬ fn.name = "runtime.NumGoroutine" := by have := hen.2; simpa using this
    have hb : ¬ fn.body = none := by
      intro e
      have := hen.1
      rw [e] at this
      cases this
    simp [callFunc, hfn, hne, hb]
  · cases hen
theorem run_static {f : FuncId} {args : Array Operand} {ts : Array TypeId} (ho : o.op = .call { callee := .value (.func f), args := args, argTypes := ts }) (hen : enters P f = true) (w0 : World) (S : Scope) (n : Dom) (ι : Names) (a : Act) (w : World)
    (_ : RepS w0 S n s ι a w) : (execOp a.eval o).run P w = .ok (.enter f (args.map a.eval)) w := by
  simp [execOp, ho, resolve, Act.eval, Deferred.ofValue, invoke, run_enter hen]
theorem run_dynamic {x : Operand} {f : FuncId} {args : Array Operand} {ts : Array TypeId} (ho : o.op = .call { callee := .value x, args := args, argTypes := ts }) (hx : s.eval x = .one (.d (.fn f))) (hen : enters P f = true) (w0 : World) (S : Scope) (n : Dom) (ι : Names) (a : Act) (w : World)
    (h : RepS w0 S n s ι a w) : (execOp a.eval o).run P w = .ok (.enter f (args.map a.eval)) w := by
  have hv := h.eval x
  rw [hx] at hv
  simp only [RepAV, RepCl, RepD] at hv
  simp [execOp, ho, resolve, hv, Deferred.ofValue, invoke, run_enter hen]
theorem right_call {Γ : Gam} {f : FuncId} {args : Array Operand} (ho : enters P f = true → ∀ (w0 : World) (S : Scope) (n : Dom) (ι : Names) (a : Act) (w : World), RepS w0 S n s ι a w → (execOp a.eval o).run P w = .ok (.enter f (args.map a.eval)) w) : Right P o s (opCall P Γ o.dst f (args.toList.map s.eval)) := by
  unfold opCall
  split
  · split
    · rename_i d hd; exact right_callO ho hd
    · exact .none
  · split
    · exact right_callN ho
    · exact right_callP ho

theorem right_prep {Γ : Gam} (o : Oper) (s : AS) : Right P o s (prep P Γ o s.eval) := by
  unfold prep
  split
  · rename_i h; exact right_move (.inl h)
  · rename_i h; exact right_move (.inr h)
  · rename_i h; exact right_pick h
  · rename_i h; exact right_alloc h
  · rename_i h; exact right_box h
  · rename_i h; exact right_build h
  · rename_i h; exact right_buildSlice h
  · rename_i h; exact right_load h
  · rename_i h; exact right_store h
  · rename_i h; exact right_nilCheck h
  · rename_i h; exact right_bin h
  · rename_i h; exact right_un h
  · rename_i h; exact right_conv h
  · rename_i h; exact right_makeSlice h
  · rename_i h; exact right_slice h
  · rename_i h; exact right_fieldAddr h
  · rename_i h; exact right_field h
  · rename_i h; exact right_indexAddr h
  · rename_i h; exact right_index h
  · rename_i h; exact right_extract h
  · rename_i h; exact right_makeFunc h
  · rename_i c h
    obtain ⟨callee, args, ts⟩ := c
    split
    · rename_i f h1
      have h1 : callee = .value (.func f) := h1
      subst h1
      exact right_call (run_static h)
    · rename_i t h1
      have h1 : callee = .value (.tmp t) := h1
      subst h1
      split
      · rename_i f hx
        exact right_call (run_dynamic h hx)
      · exact .none
    · rename_i x h1 h2
      have h1 : callee = _ := h1
      have h2 : args.toList = _ := h2
      have : args = #[x] := by rw [← Array.toArray_toList (xs := args), h2]
      subst h1 this
      exact right_len h
    · rename_i x y h1 h2
      have h1 : callee = _ := h1
      have h2 : args.toList = _ := h2
      have : args = #[x, y] := by rw [← Array.toArray_toList (xs := args), h2]
      subst h1 this
      exact right_minmax (mx := true) (by simpa using h)
    · rename_i x y h1 h2
      have h1 : callee = _ := h1
      have h2 : args.toList = _ := h2
      have : args = #[x, y] := by rw [← Array.toArray_toList (xs := args), h2]
      subst h1 this
      exact right_minmax (mx := false) (by simpa using h)
    · rename_i x y h1 h2
      have h1 : callee = _ := h1
      have h2 : args.toList = _ := h2
      have : args = #[x, y] := by rw [← Array.toArray_toList (xs := args), h2]
      subst h1 this
      exact right_append h
    · exact .none
  · exact .none
end
end Go.Proofs.Ytoljdijpmnadpaa
