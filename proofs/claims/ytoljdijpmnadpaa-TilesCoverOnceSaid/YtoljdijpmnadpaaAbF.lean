/-
  The operations upon abstract values are right: slices, fields, elements, lengths.
-/
import Derived.Test.YtoljdijpmnadpaaAbE
namespace Go.Proofs.Ytoljdijpmnadpaa
open Go.RowKit
set_option linter.unusedVariables false
set_option linter.unusedSimpArgs false

theorem addr_add (g o k : Nat) : (⟨g, o, none⟩ : Addr).add k = ⟨g, o + k, none⟩ := by unfold Addr.add; split <;> simp_all
theorem lies_part {w : World} {V : Nat → Prop} {cells : List DV} {A : Option Addr} {a m : Nat} (h : cells ≠ [] → ∃ g off, A = some ⟨g, off, none⟩ ∧ V g ∧ RepCells w V cells g off)
    (hne : (cells.drop a).take m ≠ []) : ∃ g off, A.map (·.add a) = some ⟨g, off, none⟩ ∧ V g ∧ RepCells w V ((cells.drop a).take m) g off := by
  obtain ⟨g, off, rfl, hV, hc⟩ := h (fun e => hne (by simp [e]))
  exact ⟨g, off + a, by simp [addr_add], hV, hc.part a m⟩

theorem run_sliceBound {P : Program} {w : World} {k : IntKind} {l : Int} {y : Nat} (c : BoundsCode) (h1 : 0 ≤ l) (h2 : l ≤ y) : (Instr.sliceBound (.int k l) y c).run P w = .ok l.toNat w := by
  simp only [Instr.sliceBound, asIntOf, Sem.run_bind, Sem.run_pure, Result.andThen_ok, Sem.run_ite]
  rw [if_pos ⟨h1, h2⟩]
theorem run_sliceBounds {P : Program} {w : World} (b : Bool) {len cap : Nat} {lo hi : Option Value} {l h : Int} (hl : (lo = none ∧ l = 0) ∨ ∃ k, lo = some (.int k l)) (hh : (hi = none ∧ h = len) ∨ ∃ k, hi = some (.int k h))
    (h1 : 0 ≤ l) (h2 : l ≤ h) (h3 : h ≤ cap) : (Instr.sliceBounds b len cap lo hi none).run P w = .ok (l.toNat, h.toNat, cap) w := by
  unfold Instr.sliceBounds
  have e2 : ∀ c, (Instr.sliceBound (.int .i64 h) cap c).run P w = .ok h.toNat w := fun c => run_sliceBound c (by omega) h3
  rcases hh with ⟨rfl, rfl⟩ | ⟨k, rfl⟩ <;> rcases hl with ⟨rfl, rfl⟩ | ⟨k', rfl⟩
  · simp
  · simp only [Sem.run_bind, Sem.run_pure, Result.andThen_ok, run_sliceBound (P := P) (w := w) (k := k') _ h1 (show l ≤ ((len : Nat) : Int) from h2)]
    simp [run_sliceBound (P := P) (w := w) (k := k') _ h1 (show l ≤ ((len : Nat) : Int) from h2)]
  · simp [run_sliceBound (P := P) (w := w) (k := k) _ (show 0 ≤ h by omega) h3]
  · simp [run_sliceBound (P := P) (w := w) (k := k) _ (show 0 ≤ h by omega) h3, run_sliceBound (P := P) (w := w) (k := k') (y := h.toNat) _ h1 (show l ≤ ((h.toNat : Nat) : Int) by omega)]

section
variable {P : Program} {o : Oper} {s : AS}
theorem rep_bound {w0 : World} {S : Scope} {n : Dom} {ι : Names} {a : Act} {w : World} (h : RepS w0 S n s ι a w) {x : Option Operand} {d m : Int} (hb : boundOf s.eval x d = some m) :
    ((x.map a.eval) = none ∧ m = d) ∨ ∃ k, (x.map a.eval) = some (.int k m) := by
  unfold boundOf at hb
  cases x with
  | none => left; simp at hb; exact ⟨rfl, hb.symm⟩
  | some x =>
    right
    simp only at hb
    split at hb
    · rename_i k m' hx
      injection hb with hb; subst hb
      exact ⟨k, by simp [(rep_int (h.eval x) hx).1]⟩
    · cases hb
theorem right_slice {t : TypeId} {x : Operand} {lo hi mx : Option Operand} (ho : o.op = .slice t x lo hi mx) : Right P o s (opSlice P s.eval t x lo hi mx) := by
  unfold opSlice
  split
  · rename_i e m cells hu hx
    split
    · rename_i i l h hinf hl hh
      refine .val fun w0 S n ι a w hr hvc => ?_
      obtain ⟨v1, v2, v3⟩ := hvc
      have hd := rep_dv (hr.eval x) hx
      simp only [RepD] at hd
      obtain ⟨A, cap, e1, e2, e3, e4⟩ := hd
      have hb := run_sliceBounds (P := P) (w := w) true (rep_bound hr hl) (rep_bound hr hh) v1 v2 (show h ≤ ((cap : Nat) : Int) by omega)
      have hsz : (sizeOf e).run P w = .ok i.size w := by simp [sizeOf, typeInfo, hinf]
      refine ⟨.slice (if cap = l.toNat then A else A.map (·.add (l.toNat * i.size))) (h.toNat - l.toNat) (cap - l.toNat), ?_, ?_⟩
      · simp only [execOp, ho, Option.map_none, e1, Instr.sliceAt, Sem.run_bind, run_underlying hu, Result.andThen_ok, Instr.slice, hb, hsz, Sem.run_pure]
      · simp only [RepAV, RepCl, RepD]
        refine ⟨_, _, by rw [show (h - l).toNat = h.toNat - l.toNat from by omega], by omega, by omega, fun hne => ?_⟩
        have hne' : h.toNat - l.toNat ≠ 0 := fun e => hne (by rw [show (h - l).toNat = 0 from by omega]; simp)
        rw [if_neg (by omega)]
        exact lies_part e4 hne
    · exact .none
  · rename_i str hu hx
    split
    · rename_i l h hl hh
      refine .val fun w0 S n ι a w hr hvc => ?_
      obtain ⟨v1, v2, v3⟩ := hvc
      have hd := rep_dv (hr.eval x) hx
      simp only [RepD] at hd
      have hb := run_sliceBounds (P := P) (w := w) false (rep_bound hr hl) (rep_bound hr hh) v1 v2 v3
      refine ⟨.string (str.extract l.toNat h.toNat), ?_, ?_⟩
      · simp only [execOp, ho, Option.map_none, hd.1, Instr.sliceAt, Sem.run_bind, run_underlying hu, Result.andThen_ok, Instr.slice, hb, Sem.run_pure, Option.isSome_none, Bool.false_eq_true, if_false]
      · simp only [RepAV, RepCl, RepD, true_and]
        have := hd.2
        rw [ByteArray.size_extract]
        omega
    · exact .none
  · exact .none
theorem right_fieldAddr {t : TypeId} {x : Operand} {f : Nat} (ho : o.op = .fieldAddr t x f) : Right P o s (opFieldAddr P s.eval t x f) := by
  unfold opFieldAddr
  split
  · rename_i fs hu
    split
    · rename_i fd hf
      split
      · rename_i i hi
        split
        · exact .none
        · rename_i hne
          have hsz : ∀ w, (sizeOf fd.type).run P w = .ok i.size w := fun w => by simp [sizeOf, typeInfo, hi]
          split
          · rename_i b off hx
            refine .val fun w0 S n ι a w hr _ => ?_
            have h := hr.eval x
            rw [hx] at h
            simp only [RepAV, RepCl] at h
            obtain ⟨hk, g, c, e, ev⟩ := h
            refine ⟨.pointer (some ⟨g, off + fd.offset, none⟩), ?_, by simp only [RepAV, RepCl]; exact ⟨hk, g, c, e, rfl⟩⟩
            simp [execOp, ho, ev, Instr.fieldAt, run_underlying hu, hf, Instr.sureAddr, fieldPlace, hsz, hne, addr_add]
          · rename_i cs off hx
            refine .val fun w0 S n ι a w hr _ => ?_
            have h := hr.eval x
            rw [hx] at h
            simp only [RepAV, RepCl] at h
            obtain ⟨g, o', ev, hl⟩ := h
            refine ⟨.pointer (some ⟨g, o' + (off + fd.offset), none⟩), ?_, by simp only [RepAV, RepCl]; exact ⟨g, o', rfl, hl⟩⟩
            simp [execOp, ho, ev, Instr.fieldAt, run_underlying hu, hf, Instr.sureAddr, fieldPlace, hsz, hne, addr_add, Nat.add_assoc]
          · exact .none
      · exact .none
    · exact .none
  · exact .none
theorem rep_cls_part {w : World} {V : Nat → Prop} {ι : Names} {bx : Nat → Bx} {cs : List Cl} {vs : List Value} (h : RepCls w V ι bx cs vs) (i m : Nat) : RepCls w V ι bx ((cs.drop i).take m) ((vs.drop i).take m) := by
  rw [rep_cls_iff] at h ⊢
  refine ⟨by simp [h.1], fun j c v hc hv => ?_⟩
  rw [List.getElem?_take] at hc hv
  split at hc
  · rename_i hj
    rw [if_pos hj] at hv
    rw [List.getElem?_drop] at hc hv
    exact h.2 _ _ _ hc hv
  · cases hc
theorem right_field {t : TypeId} {x : Operand} {f : Nat} (ho : o.op = .field t x f) : Right P o s (opField P s.eval t x f) := by
  unfold opField
  split
  · rename_i fs cs hu hx
    split
    · rename_i fd hf
      split
      · rename_i g k hk
        split
        · rename_i hle
          cases hag : aggOr g ((cs.drop fd.offset).take k) with
          | none => exact .none
          | some v =>
            refine .val fun w0 S n ι a w hr _ => ?_
            have h := hr.eval x
            rw [hx] at h
            simp only [RepAV] at h
            obtain ⟨cur, e, hc⟩ := h
            have hlen := rep_cls_len hc
            have hp := rep_aggOr (rep_cls_part hc fd.offset k) hag
            refine ⟨_, ?_, hp.1⟩
            obtain ⟨hA, m, hsz, hg1, hg2⟩ := kind_run hk w
            cases g with
            | true =>
              simp only [execOp, ho, e, Instr.field, Sem.run_bind, run_underlying hu, Result.andThen_ok, hf, asAgg, Sem.run_pure, part, hA, if_true, hsz, hg1 rfl]
              congr 3
              apply Array.ext'
              simp
            | false =>
              obtain rfl := hg2 rfl
              have hlt : fd.offset < cur.size := by simp at hlen; omega
              simp only [execOp, ho, e, Instr.field, Sem.run_bind, run_underlying hu, Result.andThen_ok, hf, asAgg, Sem.run_pure, part, hA, Bool.false_eq_true, if_false, Array.getElem?_eq_getElem hlt]
              simp [List.take_one, List.head?_drop, hlt]
        · exact .none
      · exact .none
    · exact .none
  · exact .none
theorem Lies.cells {w : World} {V : Nat → Prop} {xs : List DV} {g o : Nat} (h : Lies w V xs g o) : RepCells w V xs g o := by
  cases xs with
  | nil => simp only [RepCells]
  | cons d ds => exact (h (by simp)).2
theorem right_indexAddr {t : TypeId} {x y : Operand} (ho : o.op = .indexAddr t x y) : Right P o s (opIndexAddr P s.eval t x y) := by
  unfold opIndexAddr
  split
  · rename_i n e k i hu hy
    split
    · rename_i inf hi
      have hsz : ∀ w, (sizeOf e).run P w = .ok inf.size w := fun w => by simp [sizeOf, typeInfo, hi]
      split
      · rename_i b off hx
        refine .val fun w0 S _ ι a w hr hvc => ?_
        have h := hr.eval x
        rw [hx] at h
        simp only [RepAV, RepCl] at h
        obtain ⟨hk, g, c, e', ev⟩ := h
        have h2 := (rep_int (hr.eval y) hy).1
        refine ⟨.pointer (some ⟨g, off + i.toNat * inf.size, none⟩), ?_, by simp only [RepAV, RepCl]; exact ⟨hk, g, c, e', rfl⟩⟩
        simp [execOp, ho, ev, h2, Instr.indexAt, asIntOf, run_underlying hu, Instr.sureAddr, hsz, hvc.1, hvc.2, addr_add]
      · rename_i cs off hx
        refine .val fun w0 S _ ι a w hr hvc => ?_
        have h := hr.eval x
        rw [hx] at h
        simp only [RepAV, RepCl] at h
        obtain ⟨g, o', ev, hl⟩ := h
        have h2 := (rep_int (hr.eval y) hy).1
        refine ⟨.pointer (some ⟨g, o' + (off + i.toNat * inf.size), none⟩), ?_, by simp only [RepAV, RepCl]; exact ⟨g, o', rfl, hl⟩⟩
        simp [execOp, ho, ev, h2, Instr.indexAt, asIntOf, run_underlying hu, Instr.sureAddr, hsz, hvc.1, hvc.2, addr_add, Nat.add_assoc]
      · exact .none
    · exact .none
  · rename_i e k i hu hy
    split
    · rename_i inf hi
      have hsz : ∀ w, (sizeOf e).run P w = .ok inf.size w := fun w => by simp [sizeOf, typeInfo, hi]
      split
      · rename_i n cs hx
        refine .val fun w0 S _ ι a w hr hvc => ?_
        have h := hr.eval x
        rw [hx] at h
        simp only [RepAV, RepCl, RepD] at h
        obtain ⟨A, cap, ev, _, _, hl⟩ := h
        have h2 := (rep_int (hr.eval y) hy).1
        have hne : cs ≠ [] := fun e => by have := hvc.2.2; rw [e] at this; simp at this
        obtain ⟨g, off, rfl, hV, hc⟩ := hl hne
        refine ⟨.pointer (some ⟨g, off + i.toNat * inf.size, none⟩), ?_, by simp only [RepAV, RepCl]; exact ⟨g, off, rfl, fun _ => ⟨hV, hc⟩⟩⟩
        simp [execOp, ho, ev, h2, Instr.indexAt, asIntOf, run_underlying hu, hsz, hvc.1, hvc.2.1, addr_add]
      · rename_i b n hx
        refine .val fun w0 S _ ι a w hr hvc => ?_
        have h := hr.eval x
        rw [hx] at h
        simp only [RepAV, RepCl] at h
        obtain ⟨hk, h⟩ := h
        have h2 := (rep_int (hr.eval y) hy).1
        rcases h with ⟨_, h0, _⟩ | ⟨g, cap, e', ev, _⟩
        · have := hvc.2; omega
        · refine ⟨.pointer (some ⟨g, i.toNat * inf.size, none⟩), ?_, by simp only [RepAV, RepCl]; exact ⟨hk, g, cap, e', rfl⟩⟩
          simp [execOp, ho, ev, h2, Instr.indexAt, asIntOf, run_underlying hu, hsz, hvc.1, hvc.2, addr_add]
      · exact .none
    · exact .none
  · exact .none
theorem right_index {t : TypeId} {x y : Operand} (ho : o.op = .index t x y) : Right P o s (opIndex P s.eval t x y) := by
  unfold opIndex
  split
  · rename_i n e cs k i hu hx hy
    split
    · rename_i inf xs g zs hi hd hz
      cases hag : aggOr g ((leavesAt zs xs (i.toNat * inf.size)).map .d) with
      | none => exact .none
      | some v =>
        refine .val fun w0 S _ ι a w hr hvc => ?_
        have h := hr.eval x
        rw [hx] at h
        simp only [RepAV] at h
        obtain ⟨cur, ev, hc⟩ := h
        have h2 := (rep_int (hr.eval y) hy).1
        obtain ⟨us, e1, e2, e3⟩ := leaves_ds (rep_dvs hc hd) zs _ hvc.2.2
        have hp := rep_aggOr (ι := ι) (bx := s.bx) (rep_of_ds e3) hag
        refine ⟨_, ?_, hp.1⟩
        have hk := leafZ_kind hz
        obtain ⟨hA, m, hsz, hg1, hg2⟩ := kind_run hk w
        have hsz' : (sizeOf e).run P w = .ok inf.size w := by simp [sizeOf, typeInfo, hi]
        have hm : m = inf.size := by rw [hsz] at hsz'; injection hsz'
        have hcond : 0 ≤ i ∧ i < (n : Int) := ⟨hvc.1, hvc.2.1⟩
        cases g with
        | true =>
          have hlen : zs.length = inf.size := by rw [← hm, hg1 rfl]
          simp only [execOp, ho, ev, h2, Instr.index, asIntOf, Sem.run_bind, Sem.run_pure, run_underlying hu, Result.andThen_ok, Sem.run_ite, if_pos hcond, hsz', part, hA, if_true]
          congr 3
          apply Array.ext'
          simp only [Array.toList_extract, List.extract_eq_take_drop]
          rw [show i.toNat * inf.size + inf.size - i.toNat * inf.size = inf.size from by omega]
          apply List.ext_getElem?
          intro j
          rw [List.getElem?_take, List.getElem?_drop]
          by_cases hj : j < inf.size
          · rw [if_pos hj]
            have hj' : j < us.length := by omega
            rw [e2 j us[j] (by simp [hj'])]
            simp [hj']
          · rw [if_neg hj]
            simp; omega
        | false =>
          have hlen := hg2 rfl
          match us, e1, e2 with
          | [u], _, e2 =>
            have := e2 0 u rfl
            rw [Nat.add_zero] at this
            have hcell : cur[i.toNat * inf.size]? = some u := by simpa using this
            simp only [execOp, ho, ev, h2, Instr.index, asIntOf, Sem.run_bind, Sem.run_pure, run_underlying hu, Result.andThen_ok, Sem.run_ite, if_pos hcond, hsz', part, hA, Bool.false_eq_true, if_false, hcell]
            simp
          | [], h0, _ => simp at h0; omega
          | _ :: _ :: _, h0, _ => simp at h0; omega
    · exact .none
  · rename_i str k i hu hx hy
    refine .val fun w0 S _ ι a w hr hvc => ?_
    have h := hr.eval x
    rw [hx] at h
    simp only [RepAV, RepCl, RepD] at h
    have h2 := (rep_int (hr.eval y) hy).1
    have hlt : i.toNat < str.size := by omega
    refine ⟨.int .u8 (str[i.toNat]).toNat, ?_, ?_⟩
    · have hget : str[i.toNat]? = some str[i.toNat] := by simp [hlt]
      simp only [execOp, ho, h.1, h2, Instr.index, asIntOf, Sem.run_bind, Sem.run_pure, run_underlying hu, Result.andThen_ok, if_pos hvc.1, hget]
    · have : str.data.toList[i.toNat]?.getD 0 = str[i.toNat] := by
        have : i.toNat < str.data.size := hlt
        rw [Array.getElem?_toList, Array.getElem?_eq_getElem this]; rfl
      rw [this]
      refine rep_int1 ?_
      rw [inK_iff]
      have := str[i.toNat].toNat_lt
      simp [IntKind.min, IntKind.max, IntKind.signed, IntKind.bits]
      omega
  · exact .none
theorem right_call_op {b : Builtin} {args : Array Operand} {ts : Array TypeId} (ho : o.op = .call { callee := .builtin b, args := args, argTypes := ts }) (a : Act) (w : World) (w' : World) (v : Value)
    (h : ∀ cs, (builtin b ts o.type cs (args.map a.eval)).run P w = .ok (.value v) w') : (execOp a.eval o).run P w = .ok (.value v) w' := by
  simp only [execOp, ho, resolve, Sem.run_bind, Sem.run_pure, Result.andThen_ok, invoke, h]
theorem right_len {x : Operand} {ts : Array TypeId} (ho : o.op = .call { callee := .builtin .len, args := #[x], argTypes := ts }) : Right P o s (opLen P ts (s.eval x)) := by
  unfold opLen
  have hts : ∀ {d : TypeDesc}, (ts[0]?).bind P.underlying = some d → ∃ t, ts[0]? = some t ∧ P.underlying t = some d := fun h => Option.bind_eq_some_iff.1 h
  split
  · rename_i n e hu
    obtain ⟨t, h1, h2⟩ := hts hu
    refine .val fun w0 S _ ι a w hr hvc => ⟨.int .i64 n, right_call_op ho a w w _ fun cs => ?_, rep_int1 hvc⟩
    simp [builtin, Builtin.len_, h1, run_underlying h2, goInt]
  · rename_i e b n hu hx
    obtain ⟨t, h1, h2⟩ := hts hu
    refine .val fun w0 S _ ι a w hr hvc => ⟨.int .i64 n, right_call_op ho a w w _ fun cs => ?_, rep_int1 (inK_nat hvc)⟩
    have h := hr.eval x
    rw [hx] at h
    simp only [RepAV, RepCl] at h
    obtain ⟨_, h⟩ := h
    rcases h with ⟨_, rfl, ev⟩ | ⟨g, cap, _, ev, _⟩
    · simp [builtin, Builtin.len_, h1, run_underlying h2, goInt, ev]
    · simp [builtin, Builtin.len_, h1, run_underlying h2, goInt, ev]
  · rename_i e hu hne
    split
    · rename_i n cs hx
      obtain ⟨t, h1, h2⟩ := hts hu
      refine .val fun w0 S _ ι a w hr hvc => ?_
      have hd := rep_dv (hr.eval x) hx
      simp only [RepD] at hd
      obtain ⟨A, cap, ev, l1, l2, _⟩ := hd
      refine ⟨.int .i64 n, right_call_op ho a w w _ fun cs => ?_, rep_int1 (inK_nat (Nat.le_trans l1 l2))⟩
      simp [builtin, Builtin.len_, h1, run_underlying h2, goInt, ev]
    · exact .none
  · rename_i str hu hx
    obtain ⟨t, h1, h2⟩ := hts hu
    refine .val fun w0 S _ ι a w hr hvc => ?_
    have h := hr.eval x
    rw [hx] at h
    simp only [RepAV, RepCl, RepD] at h
    refine ⟨.int .i64 str.size, right_call_op ho a w w _ fun cs => ?_, rep_int1 (inK_nat h.2)⟩
    simp [builtin, Builtin.len_, h1, run_underlying h2, goInt, h.1]
  · exact .none
theorem right_minmax {mx : Bool} {x y : Operand} {ts : Array TypeId} (ho : o.op = .call { callee := .builtin (if mx then .max else .min), args := #[x, y], argTypes := ts }) : Right P o s (opMinMax mx (s.eval x) (s.eval y)) := by
  unfold opMinMax
  split
  · rename_i k i k' j hx hy
    split
    · rename_i hk
      subst hk
      refine .val fun w0 S _ ι a w hr hvc => ?_
      have h1 := hr.eval x
      rw [hx] at h1
      have h2 := hr.eval y
      rw [hy] at h2
      simp only [RepAV, RepCl, RepD] at h1 h2
      have i1 := (inK_iff _ _).1 h1.2
      have i2 := (inK_iff _ _).1 h2.2
      cases mx with
      | true =>
        refine ⟨.int k (max i j), right_call_op ho a w w _ fun cs => ?_, rep_int1 ((inK_iff _ _).2 (by omega))⟩
        have := run_max_int2 (P := P) w ts o.type k k i j
        rw [show (if j > i then j else i) = max i j from by omega] at this
        simp [builtin, h1.1, h2.1, this]
      | false =>
        refine ⟨.int k (min i j), right_call_op ho a w w _ fun cs => ?_, rep_int1 ((inK_iff _ _).2 (by omega))⟩
        have := run_min_int2 (P := P) w ts o.type k k i j
        rw [show (if j < i then j else i) = min i j from by omega] at this
        simp [builtin, h1.1, h2.1, this]
    · exact .none
  · exact .none
end
end Go.Proofs.Ytoljdijpmnadpaa
