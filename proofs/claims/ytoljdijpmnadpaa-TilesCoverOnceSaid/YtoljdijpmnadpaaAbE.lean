/-
  The operations upon abstract values are right: arithmetic, parts, addresses, lengths.
-/
import Derived.Test.YtoljdijpmnadpaaAbD
import Derived.Laws.StructEq
import Derived.ChangeKeysEq
namespace Go.Proofs.Ytoljdijpmnadpaa
open Go.RowKit
set_option linter.unusedVariables false
set_option linter.unusedSimpArgs false

theorem inK_iff (k : IntKind) (n : Int) : inK k n ↔ k.min ≤ n ∧ n ≤ k.max := by simp [inK, Lit.wf]
theorem inK_rem {k : IntKind} {a : Int} (h : inK k a) (b : Int) : inK k (a.tmod b) := by
  rw [inK_iff] at h ⊢
  have h0 : k.min ≤ 0 ∧ 0 ≤ k.max := by cases k <;> simp [IntKind.min, IntKind.max, IntKind.signed, IntKind.bits]
  have h1 : (a.tmod b).natAbs ≤ a.natAbs := by rw [Int.natAbs_tmod]; exact Nat.mod_le _ _
  rcases Int.le_total 0 a with ha | ha
  · have := Int.tmod_nonneg b ha
    omega
  · have := Int.tmod_nonneg b (show 0 ≤ -a by omega)
    rw [Int.neg_tmod] at this
    omega
theorem inK_shr {k : IntKind} {a : Int} (h : inK k a) (m : Nat) : inK k (a.fdiv (2 ^ m)) := by
  rw [inK_iff] at h ⊢
  have h0 : k.min ≤ -1 ∨ k.min = 0 := by cases k <;> simp [IntKind.min, IntKind.signed, IntKind.bits]
  have hp : (1 : Int) ≤ 2 ^ m := by exact_mod_cast Nat.one_le_two_pow
  rw [Int.fdiv_eq_ediv_of_nonneg _ (by omega)]
  rcases Int.le_total 0 a with ha | ha
  · have h1 := Int.ediv_nonneg ha (show (0 : Int) ≤ 2 ^ m by omega)
    have h2 := Int.ediv_le_self (2 ^ m : Int) ha
    have h3 : k.min ≤ 0 := by cases k <;> simp [IntKind.min, IntKind.signed, IntKind.bits]
    omega
  · have h1 : a ≤ a / 2 ^ m := by
      rw [Int.le_ediv_iff_mul_le (by omega)]
      have := Int.mul_le_mul_of_nonpos_left ha hp
      omega
    have h2 : a / 2 ^ m ≤ 0 := by
      have := Int.ediv_le_ediv (c := (2 ^ m : Int)) (by omega) ha
      simpa using this
    have h3 : 0 ≤ k.max := by cases k <;> simp [IntKind.max, IntKind.signed, IntKind.bits]
    omega
theorem inK_nat {n : Nat} (h : n ≤ maxLen) : inK .i64 n := by
  rw [inK_iff]
  unfold maxLen at h
  simp [IntKind.min, IntKind.max, IntKind.signed, IntKind.bits]
  omega

section
variable {w : World} {V : Nat → Prop} {ι : Names} {bx : Nat → Bx}
theorem rep_plains : ∀ {cs : List Cl} {vs us : List Value}, RepCls w V ι bx cs vs → plains cs = some us → vs = us
  | [], [], us, _, hd => by simp [plains] at hd; exact hd.symm
  | c :: cs, v :: vs, us, h, hd => by
    simp only [plains] at hd
    cases h1 : c.dv with
    | none => rw [h1] at hd; simp at hd
    | some d =>
      cases h3 : d.plain with
      | none => rw [h1] at hd; simp [h3] at hd
      | some u =>
        cases h2 : plains cs with
        | none => rw [h1, h2] at hd; simp [h3] at hd
        | some us' =>
          rw [h1, h2] at hd
          simp [h3] at hd
          subst hd
          rw [(rep_dv_cl h.1 h1).plain h3, rep_plains h.2 h2]
  | [], _ :: _, _, h, _ => h.elim
  | _ :: _, [], _, h, _ => h.elim
/-- typed leaves, read where they lie -/
theorem leaves_lie {xs : List DV} {g o : Nat} (hc : RepCells w V xs g o) : ∀ (zs : List Value) (i : Nat), leavesVc zs xs i →
    ∃ us : List Value, us.length = zs.length ∧ (∀ j u, us[j]? = some u → w.cell? ⟨g, o + i + j, none⟩ = some u) ∧ RepDs w V (leavesAt zs xs i) us := by
  intro zs
  induction zs with
  | nil => exact fun i _ => ⟨[], rfl, fun j u h => by simp at h, trivial⟩
  | cons z zs ih =>
    intro i h
    obtain ⟨h1, h2⟩ := h
    obtain ⟨us, e1, e2, e3⟩ := ih (i + 1) h2
    obtain ⟨u, hu, hd⟩ := hc.at_ _ _ h1
    refine ⟨u :: us, by simp [e1], fun j v hj => ?_, hd, e3⟩
    cases j with
    | zero => simp at hj; subst hj; exact hu
    | succ j => rw [← e2 j v (by simpa using hj)]; congr 2; omega
/-- typed leaves of a list of cells -/
theorem leaves_ds {xs : List DV} {vs : List Value} (hc : RepDs w V xs vs) : ∀ (zs : List Value) (i : Nat), leavesVc zs xs i →
    ∃ us : List Value, us.length = zs.length ∧ (∀ j u, us[j]? = some u → vs[i + j]? = some u) ∧ RepDs w V (leavesAt zs xs i) us := by
  intro zs
  induction zs with
  | nil => exact fun i _ => ⟨[], rfl, fun j u h => by simp at h, trivial⟩
  | cons z zs ih =>
    intro i h
    obtain ⟨h1, h2⟩ := h
    obtain ⟨us, e1, e2, e3⟩ := ih (i + 1) h2
    obtain ⟨u, hu, hd⟩ := rep_ds_at hc _ _ h1
    refine ⟨u :: us, by simp [e1], fun j v hj => ?_, hd, e3⟩
    cases j with
    | zero => simp at hj; subst hj; exact hu
    | succ j => rw [← e2 j v (by simpa using hj)]; congr 1; omega
end

section
variable {P : Program} {o : Oper} {s : AS}
theorem kind_run {P : Program} {t : TypeId} {g : Bool} {k : Nat} (h : kindOf P t = some (g, k)) (w : World) :
    (isAgg t).run P w = .ok g w ∧ ∃ m, (sizeOf t).run P w = .ok m w ∧ (g = true → m = k) ∧ (g = false → k = 1) := by
  unfold kindOf at h
  cases hi : P.info? t with
  | none => rw [hi] at h; cases h
  | some i =>
    cases hd : P.underlying t with
    | none => rw [hi, hd] at h; cases h
    | some d =>
      rw [hi, hd] at h
      cases d <;> simp only [Option.some.injEq, Prod.mk.injEq] at h <;> obtain ⟨rfl, rfl⟩ := h <;>
        exact ⟨by simp [isAgg, run_underlying hd], i.size, by simp [sizeOf, typeInfo, hi], by simp, by simp⟩
theorem leafZ_kind {P : Program} {t : TypeId} {g : Bool} {zs : List Value} (h : leafZ P t = some (g, zs)) : kindOf P t = some (g, zs.length) := by
  unfold leafZ at h
  split at h
  · rename_i g' k z h1 h2
    split at h
    · rename_i hk
      simp only [Option.some.injEq, Prod.mk.injEq] at h
      obtain ⟨rfl, rfl⟩ := h
      rw [h1]; simp [hk]
    · cases h
  · cases h
/-- a variable is loaded out of cells that are known -/
theorem run_loadVar_of {P : Program} {t : TypeId} {g : Bool} {us : List Value} (hk : kindOf P t = some (g, us.length)) {w : World} {b o : Nat}
    (hc : ∀ j u, us[j]? = some u → w.cell? ⟨b, o + j, none⟩ = some u) : (loadVar t ⟨b, o, none⟩).run P w = .ok (if g then .agg us.toArray else us.headD undef) w := by
  obtain ⟨h1, m, h2, h3, h4⟩ := kind_run hk w
  cases g with
  | true =>
    have hl := run_loadCells_list (P := P) w ⟨b, o, none⟩ us (fun j v hv => by
      have : (⟨b, o, none⟩ : Addr).add j = ⟨b, o + j, none⟩ := by unfold Addr.add; split <;> simp_all
      rw [this]; exact hc j v hv)
    rw [← h3 rfl] at hl
    simp only [loadVar, Sem.run_bind, h1, Result.andThen_ok, if_true, h2, hl, Sem.run_pure]
  | false =>
    have hlen := h4 rfl
    match us, hlen, hc with
    | [u], _, hc =>
      have := hc 0 u rfl
      rw [Nat.add_zero] at this
      simp [loadVar, h1, run_load, this]
theorem rep_int1 {w : World} {V : Nat → Prop} {ι : Names} {bx : Nat → Bx} {k : IntKind} {n : Int} (h : inK k n) : RepAV w V ι bx (.one (.d (.int k n))) (.int k n) := by
  simp only [RepAV, RepCl, RepD]; exact ⟨trivial, h⟩
theorem rep_bool1 {w : World} {V : Nat → Prop} {ι : Names} {bx : Nat → Bx} {b : Bool} : RepAV w V ι bx (.one (.d (.bool b))) (.bool b) := by
  simp only [RepAV, RepCl, RepD]

theorem partV_run {P : Program} {t : TypeId} {cs : Array Value} {off : Nat} {v : Value} (h : partV P t cs.toList off = some v) (w : World) : (part t cs off).run P w = .ok v w := by
  unfold partV at h
  split at h
  · rename_i k hk
    obtain ⟨h1, m, h2, h3, _⟩ := kind_run hk w
    injection h with h
    subst h
    simp only [part, Sem.run_bind, h1, Result.andThen_ok, if_true, h2, Sem.run_pure, h3 rfl]
    congr 2
    apply Array.ext'
    simp
  · rename_i k hk
    obtain ⟨h1, _⟩ := kind_run hk w
    have h' : cs[off]? = some v := by simpa using h
    simp only [part, Sem.run_bind, h1, Result.andThen_ok, Bool.false_eq_true, if_false, h', Sem.run_pure]
  · cases h
theorem eqP_run {P : Program} : ∀ (d : Nat) {t : TypeId} {x y : Value} {r : Bool}, eqP P d t x y = some r → ∀ (k : Nat) (w : World), (Op.equalIn (d + k) t x y).run P w = .ok r w
  | 0, t, x, y, r, h, _, _ => by cases h
  | d + 1, t, x, y, r, h, k, w => by
    rw [show d + 1 + k = (d + k) + 1 from by omega]
    have ih := fun {t : TypeId} {x y : Value} {r : Bool} (h : eqP P d t x y = some r) (w : World) => eqP_run d h k w
    unfold eqP at h
    split at h
    · rename_i hu; injection h with h; subst h; exact run_equalIn_bool' w _ _ _ _ hu
    · rename_i hu
      split at h
      · rename_i hk; subst hk; injection h with h; subst h; exact run_equalIn_int w _ _ _ _ _ _ hu
      · cases h
    · rename_i hu; injection h with h; subst h; exact run_equalIn_string w _ _ _ _ hu
    · rename_i fs xs ys hu
      split at h
      · cases h
      · rename_i hs
        have hs : P.stoodInHeld t = false := by simpa using hs
        have hf : P.fieldsOf t = fs := by simp [Program.fieldsOf, hu]
        rw [run_equalIn_struct w (d + k) t xs ys (by rw [hf]; exact hu) hs, hf]
        clear hf hu
        revert r
        induction fs.toList with
        | nil => intro r h; simp only [eqFs, Option.some.injEq] at h; subst h; simp [Op.eqFields]
        | cons f fs ihf =>
          intro r h
          simp only [eqFs] at h
          by_cases hn : f.name = "_"
          · rw [if_pos hn] at h
            simp only [Op.eqFields, hn, ne_eq, not_true_eq_false, if_false]
            exact ihf _ h
          · rw [if_neg hn] at h
            cases h1 : partV P f.type xs.toList f.offset with
            | none => rw [h1] at h; cases h
            | some a =>
              cases h2 : partV P f.type ys.toList f.offset with
              | none => rw [h1, h2] at h; cases h
              | some b =>
                cases h3 : eqP P d f.type a b with
                | none => rw [h1, h2] at h; simp only [h3] at h; cases h
                | some r1 =>
                  cases h4 : eqFs P (eqP P d) xs.toList ys.toList fs with
                  | none => rw [h1, h2] at h; simp only [h3, h4] at h; cases h
                  | some r2 =>
                    rw [h1, h2] at h
                    simp only [h3, h4, Option.some.injEq] at h
                    subst h
                    have e4 := ihf _ h4
                    simp only [Op.eqFields, hn, ne_eq, not_false_eq_true, if_true, Sem.run_bind, partV_run h1, partV_run h2, ih h3, Result.andThen_ok]
                    cases r1
                    · simp
                    · simpa using e4
    · rename_i n e xs ys hu
      split at h
      · rename_i inf hi
        rw [run_equalIn_array w (d + k) xs ys hu hi]
        clear hu
        revert r
        induction List.range n with
        | nil => intro r h; simp only [eqIs, Option.some.injEq] at h; subst h; simp [Op.eqItems]
        | cons i is ihi =>
          intro r h
          simp only [eqIs] at h
          cases h1 : partV P e xs.toList (i * P.cellsOf e) with
          | none => rw [h1] at h; cases h
          | some a =>
            cases h2 : partV P e ys.toList (i * P.cellsOf e) with
            | none => rw [h1, h2] at h; cases h
            | some b =>
              cases h3 : eqP P d e a b with
              | none => rw [h1, h2] at h; simp only [h3] at h; cases h
              | some r1 =>
                cases h4 : eqIs P (eqP P d) e xs.toList ys.toList is with
                | none => rw [h1, h2] at h; simp only [h3, h4] at h; cases h
                | some r2 =>
                  rw [h1, h2] at h
                  simp only [h3, h4, Option.some.injEq] at h
                  subst h
                  have e4 := ihi _ h4
                  simp only [Op.eqItems, Sem.run_bind, partV_run h1, partV_run h2, ih h3, Result.andThen_ok]
                  cases r1
                  · simp
                  · simpa using e4
      · cases h
    · cases h
theorem eqAgg_run {P : Program} {t : TypeId} {us vs : List Value} {r : Bool} (h : eqAgg P t us vs = some r) : P.eqGuardType P.depth t = false ∧ ∀ w, (Op.equal t (.agg us.toArray) (.agg vs.toArray)).run P w = .ok r w := by
  unfold eqAgg at h
  split at h
  · cases h
  · rename_i hg
    exact ⟨by simpa using hg, fun w => eqP_run 20 h 9980 w⟩
theorem right_bin {op : BinOp} {t t' : TypeId} {x y : Operand} (ho : o.op = .binOp op t x y t') : Right P o s (opBin P s.eval op t x y) := by
  unfold opBin
  split
  · rename_i xs ys hx hy
    split
    · rename_i us vs h1 h2
      cases he : eqAgg P t us vs with
      | none => exact .none
      | some r =>
        split
        · rename_i r' he'
          injection he' with he'; subst he'
          refine .val fun w0 S n ι a w h hvc => ⟨.bool r, ?_, rep_bool1⟩
          have e1 := h.eval x
          have e2 := h.eval y
          rw [hx] at e1; rw [hy] at e2
          simp only [RepAV] at e1 e2
          obtain ⟨c1, e1, r1⟩ := e1
          obtain ⟨c2, e2, r2⟩ := e2
          have f1 := rep_plains r1 h1
          have f2 := rep_plains r2 h2
          have g1 : c1 = us.toArray := by rw [← f1]
          have g2 : c2 = vs.toArray := by rw [← f2]
          subst g1 g2
          obtain ⟨q1, q2⟩ := eqAgg_run he
          have := q2 w
          simp [execOp, ho, e1, e2, eqGuard, q1, binOp, this]
        · rename_i r' he'
          injection he' with he'; subst he'
          refine .val fun w0 S n ι a w h hvc => ⟨.bool (!r), ?_, rep_bool1⟩
          have e1 := h.eval x
          have e2 := h.eval y
          rw [hx] at e1; rw [hy] at e2
          simp only [RepAV] at e1 e2
          obtain ⟨c1, e1, r1⟩ := e1
          obtain ⟨c2, e2, r2⟩ := e2
          have f1 := rep_plains r1 h1
          have f2 := rep_plains r2 h2
          have g1 : c1 = us.toArray := by rw [← f1]
          have g2 : c2 = vs.toArray := by rw [← f2]
          subst g1 g2
          obtain ⟨q1, q2⟩ := eqAgg_run he
          have := q2 w
          simp [execOp, ho, e1, e2, eqGuard, q1, binOp, this]
        · exact .none
    · exact .none
  · split
    · rename_i k a' k' b' h1 h2
      split
      · rename_i hsh
        cases hr : shiftInt op k a' b' with
        | none => exact .none
        | some r =>
          simp only [Option.map_some]
          cases op <;> simp [isShift] at hsh <;> simp only [shiftInt, Option.some.injEq] at hr <;> subst hr
          · refine .val fun w0 S n ι a w h hvc => ⟨_, ?_, rep_int1 (wf_wrap _ _)⟩
            have e1 := rep_int (h.eval x) h1
            have e2 := rep_int (h.eval y) h2
            have hneg : ¬ b' < 0 := by have := hvc; simp at this; omega
            simp [execOp, ho, e1.1, e2.1, eqGuard, binOp, Op.shift, hneg]
          · refine .val fun w0 S n ι a w h hvc => ⟨_, ?_, rep_int1 (inK_shr (rep_int (h.eval x) h1).2 _)⟩
            have e1 := rep_int (h.eval x) h1
            have e2 := rep_int (h.eval y) h2
            have hneg : ¬ b' < 0 := by have := hvc; simp at this; omega
            simp [execOp, ho, e1.1, e2.1, eqGuard, binOp, Op.shift, hneg]
      · rename_i hsh
        split
        · rename_i hk
          subst hk
          cases hr : binInt op k a' b' with
          | none => exact .none
          | some r =>
            simp only [Option.map_some]
            cases op <;> simp [isShift] at hsh <;> simp only [binInt, Option.some.injEq, reduceCtorEq] at hr <;> subst hr
            all_goals
              refine .val fun w0 S n ι a w h hvc => ⟨_, ?_, by first | exact rep_bool1 | exact rep_int1 (wf_wrap _ _) | exact rep_int1 (inK_rem (rep_int (h.eval x) h1).2 _)⟩
              have e1 := rep_int (h.eval x) h1
              have e2 := rep_int (h.eval y) h2
              have hvc' := hvc
              simp only [ne_eq] at hvc'
              simp [execOp, ho, e1.1, e2.1, eqGuard, binOp, Op.intArith, Op.intDiv, Op.intBits, Op.intCmp, hvc']
        · exact .none
    · rename_i a' b' h1 h2
      cases hr : binStr op a' b' with
      | none => exact .none
      | some r =>
        simp only [Option.map_some]
        cases op <;> simp only [binStr, Option.some.injEq, reduceCtorEq] at hr <;> subst hr
        all_goals
          refine .val fun w0 S n ι a w h hvc => ?_
          have e1 := rep_dv (h.eval x) h1
          have e2 := rep_dv (h.eval y) h2
          simp only [RepD] at e1 e2
          first
            | (refine ⟨_, ?_, rep_bool1⟩; simp [execOp, ho, e1.1, e2.1, eqGuard, binOp, Op.stringOp]; done)
            | (refine ⟨.string (a' ++ b'), ?_, by simp only [RepAV, RepCl, RepD, true_and, ByteArray.size_append]; exact hvc⟩
               have hle : ¬ (IntKind.i64.max < ((a'.size + b'.size : Nat) : Int)) := by
                 have := hvc
                 simp only [maxLen] at this
                 simp [IntKind.max, IntKind.signed, IntKind.bits]
                 omega
               simp only [execOp, ho, e1.1, e2.1, eqGuard, binOp, Op.stringOp, Sem.run_bind, Sem.run_pure, Result.andThen_ok, gt_iff_lt, hle, if_false, Bool.not_false, if_true])
    · rename_i a' b' h1 h2
      split
      · rename_i hu
        refine .val fun w0 S n ι a w h hvc => ⟨_, ?_, rep_bool1⟩
        have e1 := rep_dv (h.eval x) h1
        have e2 := rep_dv (h.eval y) h2
        simp only [RepD] at e1 e2
        have hq : (Op.equal t (.bool a') (.bool b')).run P w = .ok (a' == b') w := run_equalIn_bool w 9999 t a' b' hu
        simp [execOp, ho, e1, e2, eqGuard, binOp, hq]
      · rename_i hu
        refine .val fun w0 S n ι a w h hvc => ⟨_, ?_, rep_bool1⟩
        have e1 := rep_dv (h.eval x) h1
        have e2 := rep_dv (h.eval y) h2
        simp only [RepD] at e1 e2
        have hq : (Op.equal t (.bool a') (.bool b')).run P w = .ok (a' == b') w := run_equalIn_bool w 9999 t a' b' hu
        simp [execOp, ho, e1, e2, eqGuard, binOp, hq]
      · exact .none
    · exact .none
end
end Go.Proofs.Ytoljdijpmnadpaa
