/-
  What a law is handed, as data by its types; and from a law's answer to its row.
-/
import Derived.Test.YtoljdijpmnadpaaAbU
import Derived.Test.YtoljdijpmnadpaaData
namespace Go.Proofs.Ytoljdijpmnadpaa
open Go.RowKit Go.ChangeShapes Go.WideShapes
set_option linter.unusedVariables false
set_option linter.unusedSimpArgs false

def lv (P : Program) (e : TypeId) : Option (List TypeId) :=
  match leaves P 8 e with
  | some ls => if ls.length = P.cellsOf e ∧ 0 < ls.length then some ls else none
  | none => none
/-- what a cell of a type is -/
def LeafD (P : Program) : Nat → TypeId → DV → Prop
  | 0, _, _ => False
  | k + 1, t, d =>
    match P.underlying t with
    | some .bool => ∃ b, d = .bool b
    | some (.int q) => ∃ n, d = .int q n
    | some .string => ∃ s, d = .str s
    | some (.slice e) => ∃ n xs, d = .sl n xs ∧ n * P.bytesOf e ≤ reachBytes ∧ match lv P e with
      | some ls => xs.length = n * ls.length ∧ ∀ (j : Nat) d', xs[j]? = some d' → ∃ t', ls[j % ls.length]? = some t' ∧ LeafD P k t' d'
      | none => xs = []
    | _ => False
def deepT (P : Program) : Nat → TypeId → Bool
  | 0, _ => false
  | k + 1, t =>
    match P.underlying t with
    | some .bool | some (.int _) | some .string => true
    | some (.slice e) => match lv P e with
      | some ls => ls.all (deepT P k)
      | none => true
    | _ => false
theorem pick_list {α : Type} {Q : Nat → α → Prop} : ∀ n : Nat, (∀ j, j < n → ∃ d, Q j d) → ∃ xs : List α, xs.length = n ∧ ∀ (j : Nat) d, xs[j]? = some d → Q j d
  | 0, _ => ⟨[], rfl, fun j d h => by simp at h⟩
  | n + 1, h => by
    obtain ⟨xs, h1, h2⟩ := pick_list n fun j hj => h j (by omega)
    obtain ⟨d, hd⟩ := h n (by omega)
    refine ⟨xs ++ [d], by simp [h1], fun j d' hj => ?_⟩
    by_cases hlt : j < n
    · rw [List.getElem?_append_left (by omega)] at hj; exact h2 j d' hj
    · rw [List.getElem?_append_right (by omega)] at hj
      have : j - xs.length = 0 := by
        have := (List.getElem?_eq_some_iff.1 hj).1
        simp at this; omega
      rw [this] at hj
      simp at hj
      subst hj
      have : j = n := by omega
      subst this; exact hd
section
variable {P : Program} {w : World}
theorem lv_leaves {P : Program} {e : TypeId} {ls : List TypeId} (h : lv P e = some ls) : leaves P 8 e = some ls ∧ ls.length = P.cellsOf e ∧ 0 < ls.length := by
  unfold lv at h
  split at h
  · rename_i l hl
    split at h
    · rename_i hc; injection h with h; subst h; exact ⟨hl, hc.1, hc.2⟩
    · cases h
  · cases h
theorem addr_add' (a : Addr) (i j : Nat) (h : a.spot = none) : (a.add i).add j = ⟨a.block, a.off + (i + j), none⟩ := by
  obtain ⟨b, o, sp⟩ := a
  simp only at h
  subst h
  rw [addr_add, addr_add, Nat.add_assoc]
theorem rep_leaf : ∀ (k : Nat) (t : TypeId), deepT P k t = true → ∀ (fuel : Nat) (v : Value), Rd P w fuel t [v] → ∃ d, RepD w (fun _ => True) d v ∧ LeafD P k t d
  | 0, _, h, _, _, _ => by cases h
  | k + 1, t, ho, fuel, v, h => by
    unfold deepT at ho
    unfold LeafD
    split at ho
    · rename_i hu
      obtain ⟨b, hb⟩ := h.bool hu
      simp only [List.cons.injEq, and_true] at hb
      subst hb
      exact ⟨.bool b, by simp only [RepD], b, rfl⟩
    · rename_i q hu
      obtain ⟨n, hn, hw⟩ := h.int hu
      simp only [List.cons.injEq, and_true] at hn
      subst hn
      exact ⟨.int q n, by simp only [RepD]; exact ⟨trivial, hw⟩, n, rfl⟩
    · rename_i hu
      obtain ⟨s, hs, hw⟩ := h.str hu
      simp only [List.cons.injEq, and_true] at hs
      subst hs
      refine ⟨.str s, by simp only [RepD, true_and]; unfold reachBytes at hw; unfold maxLen; omega, s, rfl⟩
    · rename_i e hu
      rcases h.slice hu with h | ⟨a, len, cap, h1, h2, h3, h4, h5⟩
      · simp only [List.cons.injEq, and_true] at h
        subst h
        refine ⟨.sl 0 [], by simp only [RepD]; exact ⟨none, 0, rfl, Nat.le_refl _, Nat.zero_le _, fun e => absurd rfl e⟩, 0, [], rfl, by simp, ?_⟩
        split
        · exact ⟨by simp, fun j d h => by simp at h⟩
        · rfl
      · simp only [List.cons.injEq, and_true] at h1
        subst h1
        have hby : len * P.bytesOf e ≤ reachBytes := Nat.le_trans (Nat.mul_le_mul_right _ h2) h4
        cases hl : lv P e with
        | none => exact ⟨.sl len [], by simp only [RepD]; exact ⟨some a, cap, rfl, h2, h3, fun e => absurd rfl e⟩, len, [], rfl, hby, rfl⟩
        | some ls =>
          rw [hl] at ho
          simp only [List.all_eq_true] at ho
          obtain ⟨g1, g2, g3⟩ := lv_leaves hl
          have hcell : ∀ j, j < len * ls.length → ∃ d, a.spot = none ∧ (∃ u, w.cell? ⟨a.block, a.off + j, none⟩ = some u ∧ RepD w (fun _ => True) d u) ∧ ∃ t', ls[j % ls.length]? = some t' ∧ LeafD P k t' d := by
            intro j hj
            have hi : j / ls.length < len := by rw [Nat.div_lt_iff_lt_mul g3]; exact hj
            obtain ⟨cs', c1, fuel', c2⟩ := h5 (j / ls.length) (by omega)
            have hm : j % ls.length < ls.length := Nat.mod_lt _ g3
            obtain ⟨c, g, e1, e2⟩ := rd_leaves 8 e ls fuel' cs' g1 c2 (j % ls.length) (ls[j % ls.length]) (by simp [hm])
            obtain ⟨d, f1, f2⟩ := rep_leaf k ls[j % ls.length] (ho _ (List.getElem_mem hm)) g c e2
            obtain ⟨_, c3, c4⟩ := World.cells?_some c1
            have hc := c4 (j % ls.length) (by omega)
            rw [e1] at hc
            have hpos : 0 < cap := Nat.lt_of_lt_of_le (Nat.lt_of_le_of_lt (Nat.zero_le _) hi) h2
            have hcp : 0 < P.cellsOf e := by omega
            have hs : a.spot = none := by
              cases hsp : a.spot with
              | none => rfl
              | some x =>
                exfalso
                obtain ⟨cs0, d0, _⟩ := h5 0 hpos
                obtain ⟨_, hlen, d1⟩ := World.cells?_some d0
                have c0 := d1 0 hcp
                rw [Nat.zero_mul, show a.add 0 = a from by simp [Addr.add], show a.add 0 = a from by simp [Addr.add]] at c0
                have : w.cell? a = none := by
                  unfold World.cell?
                  split
                  · simp [hsp]
                  · rfl
                rw [this] at c0
                have := List.getElem?_eq_none_iff.1 c0.symm
                omega
            refine ⟨d, hs, ⟨c, ?_, f1⟩, _, by simp [hm], f2⟩
            rw [addr_add' _ _ _ hs, ← g2, Nat.mul_comm, Nat.div_add_mod] at hc
            exact hc
          obtain ⟨xs, x1, x2⟩ := pick_list (len * ls.length) hcell
          refine ⟨.sl len xs, ?_, len, xs, rfl, hby, x1, fun j d' hj => (x2 j d' hj).2.2⟩
          simp only [RepD]
          refine ⟨some a, cap, rfl, h2, h3, fun hne => ⟨a.block, a.off, ?_, trivial, .of_at fun i d hi => (x2 i d hi).2.1⟩⟩
          cases xs with
          | nil => exact absurd rfl hne
          | cons d ds =>
            have hs := (x2 0 d rfl).1
            obtain ⟨b, o, sp⟩ := a
            simp only at hs
            subst hs
            rfl
    · cases ho

/-- a parameter, as data -/
def ParamR (P : Program) (t : TypeId) (r : RV) : Prop :=
  match P.underlying t with
  | some (.struct _) | some (.array _ _) => ∃ ds ls, r = .agg ds ∧ lv P t = some ls ∧ ds.length = ls.length ∧ ∀ (i : Nat) d, ds[i]? = some d → ∃ t', ls[i]? = some t' ∧ LeafD P 6 t' d
  | _ => ∃ d, r = .d d ∧ LeafD P 6 t d
def ParamRs (P : Program) : List TypeId → List RV → Prop
  | [], [] => True
  | t :: ts, r :: rs => ParamR P t r ∧ ParamRs P ts rs
  | _, _ => False
def okT (P : Program) (t : TypeId) : Bool :=
  match P.underlying t with
  | some (.struct _) | some (.array _ _) => match lv P t with
    | some ls => ls.all (deepT P 6)
    | none => false
  | _ => deepT P 6 t
theorem param_rep {t : TypeId} {v : Value} (ho : okT P t = true) (h : Arg P w t v) : ∃ r, RepR w (fun _ => True) r v ∧ ParamR P t r := by
  have many : ((∃ fs, P.underlying t = some (.struct fs)) ∨ ∃ n e, P.underlying t = some (.array n e)) → (match lv P t with | some ls => ls.all (deepT P 6) | none => false) = true → ∃ ds ls, RepR w (fun _ => True) (.agg ds) v ∧ lv P t = some ls ∧ ds.length = ls.length ∧ ∀ (i : Nat) d, ds[i]? = some d → ∃ t', ls[i]? = some t' ∧ LeafD P 6 t' d := by
    intro hu hl
    obtain ⟨cs, rfl, hlen, g, hr⟩ := h.many hu (n := P.cellsOf t) rfl
    cases hlv : lv P t with
    | none => rw [hlv] at hl; cases hl
    | some ls =>
      rw [hlv] at hl
      simp only [List.all_eq_true] at hl
      obtain ⟨g1, g2, g3⟩ := lv_leaves hlv
      have hcell : ∀ i, i < ls.length → ∃ d, (∃ c, cs[i]? = some c ∧ RepD w (fun _ => True) d c) ∧ ∃ t', ls[i]? = some t' ∧ LeafD P 6 t' d := by
        intro i hi
        obtain ⟨c, g', e1, e2⟩ := rd_leaves 8 t ls g cs g1 hr i ls[i] (by simp [hi])
        obtain ⟨d, f1, f2⟩ := rep_leaf 6 ls[i] (hl _ (List.getElem_mem hi)) g' c e2
        exact ⟨d, ⟨c, e1, f1⟩, _, by simp [hi], f2⟩
      obtain ⟨ds, x1, x2⟩ := pick_list ls.length hcell
      refine ⟨ds, ls, ?_, rfl, x1, fun i d hi => (x2 i d hi).2⟩
      simp only [RepR]
      refine ⟨_, rfl, ?_⟩
      rw [rep_ds_iff]
      refine ⟨by simp; omega, fun i d v hd hv => ?_⟩
      obtain ⟨⟨c, e1, e2⟩, _⟩ := x2 i d hd
      have : cs[i]? = some v := by simpa using hv
      rw [e1] at this
      injection this with this
      subst this
      exact e2
  unfold okT at ho
  unfold ParamR
  split at ho
  · rename_i fs hu
    obtain ⟨ds, ls, h1, h2⟩ := many (.inl ⟨_, hu⟩) ho
    exact ⟨.agg ds, h1, ds, ls, rfl, h2⟩
  · rename_i n e hu
    obtain ⟨ds, ls, h1, h2⟩ := many (.inr ⟨_, _, hu⟩) ho
    exact ⟨.agg ds, h1, ds, ls, rfl, h2⟩
  · rename_i h1 h2
    obtain ⟨g, hr⟩ := h.one (fun fs e => h1 fs e) (fun n e e' => h2 n e e')
    obtain ⟨d, f1, f2⟩ := rep_leaf 6 t ho g v hr
    exact ⟨.d d, by simp only [RepR]; exact f1, ⟨d, rfl, f2⟩⟩
theorem params_rep : ∀ {ts : List TypeId} {vs : List Value}, ts.all (okT P) = true → Args P w ts vs → ∃ rs, RepRs w (fun _ => True) rs vs ∧ ParamRs P ts rs
  | [], [], _, _ => ⟨[], by simp only [RepRs], trivial⟩
  | t :: ts, v :: vs, ho, h => by
    simp only [List.all_cons, Bool.and_eq_true] at ho
    obtain ⟨r, h1, h2⟩ := param_rep ho.1 h.1
    obtain ⟨rs, h3, h4⟩ := params_rep ho.2 h.2
    exact ⟨r :: rs, by simp only [RepRs]; exact ⟨h1, h3⟩, h2, h4⟩
  | [], _ :: _, _, h => h.elim
  | _ :: _, [], _, h => h.elim
/-- from a law's answer to what its row asks -/
theorem told_of {f : FuncId} {ts : List TypeId} (hok : ts.all (okT P) = true) (h : ∀ rs, ParamRs P ts rs → RV.wfs rs → Ans P f rs (.d (.bool true))) (W : World) (args : Array Value) (ha : Args P W ts args.toList) :
    Calls P f args W fun e W' => e = .returned (.bool true) ∧ Below W.heap.size W W' := by
  obtain ⟨rs, h1, h2⟩ := params_rep hok ha
  refine (h rs h2 (RepRs.wf h1) W _ args h1).mono fun e w' ⟨v, he, hv, hb⟩ => ?_
  simp only [RepR, RepD] at hv
  subst hv
  exact ⟨he, hb⟩
end

/-! ### opening -/
theorem ParamRs.cons {P : Program} {t : TypeId} {ts : List TypeId} {rs : List RV} (h : ParamRs P (t :: ts) rs) : ∃ r rs', rs = r :: rs' ∧ ParamR P t r ∧ ParamRs P ts rs' := by
  cases rs with
  | nil => exact h.elim
  | cons r rs => exact ⟨r, rs, rfl, h.1, h.2⟩
theorem ParamRs.nil {P : Program} {rs : List RV} (h : ParamRs P [] rs) : rs = [] := by
  cases rs with
  | nil => rfl
  | cons r rs => exact h.elim
theorem ParamR.one {P : Program} {t : TypeId} {r : RV} {k : IntKind} (h : ParamR P t r) (hu : P.underlying t = some (.int k)) : ∃ n, r = .d (.int k n) := by
  unfold ParamR at h
  simp only [hu] at h
  obtain ⟨d, rfl, h⟩ := h
  unfold LeafD at h
  simp only [hu] at h
  obtain ⟨n, rfl⟩ := h
  exact ⟨n, rfl⟩
theorem ParamR.many {P : Program} {t : TypeId} {r : RV} {ls : List TypeId} (h : ParamR P t r) (hu : (match P.underlying t with | some (.struct _) | some (.array _ _) => true | _ => false) = true) (hl : lv P t = some ls) :
    ∃ ds, r = .agg ds ∧ ds.length = ls.length ∧ ∀ (i : Nat) d, ds[i]? = some d → ∃ t', ls[i]? = some t' ∧ LeafD P 6 t' d := by
  unfold ParamR at h
  split at hu
  · rename_i fs he
    simp only [he] at h
    obtain ⟨ds, ls', h1, h2, h3⟩ := h
    rw [hl] at h2; injection h2 with h2; subst h2
    exact ⟨ds, h1, h3⟩
  · rename_i n e he
    simp only [he] at h
    obtain ⟨ds, ls', h1, h2, h3⟩ := h
    rw [hl] at h2; injection h2 with h2; subst h2
    exact ⟨ds, h1, h3⟩
  · cases hu
/-- the cells of a thing of many leaves -/
def LeavesD (P : Program) (q : Nat) (ls : List TypeId) (ds : List DV) : Prop := ds.length = ls.length ∧ ∀ (i : Nat) d, ds[i]? = some d → ∃ t', ls[i]? = some t' ∧ LeafD P q t' d
theorem LeavesD.cons {P : Program} {q : Nat} {t : TypeId} {ts : List TypeId} {ds : List DV} (h : LeavesD P q (t :: ts) ds) : ∃ d ds', ds = d :: ds' ∧ LeafD P q t d ∧ LeavesD P q ts ds' := by
  obtain ⟨h1, h2⟩ := h
  cases ds with
  | nil => simp at h1
  | cons d ds =>
    refine ⟨d, ds, rfl, ?_, by simpa using h1, fun i d' hd => ?_⟩
    · obtain ⟨t', e, h⟩ := h2 0 d rfl
      simp at e; subst e; exact h
    · obtain ⟨t', e, h⟩ := h2 (i + 1) d' (by simpa using hd)
      exact ⟨t', by simpa using e, h⟩
theorem LeavesD.nil {P : Program} {q : Nat} {ds : List DV} (h : LeavesD P q [] ds) : ds = [] := by
  have := h.1
  simpa using this
theorem LeafD.int {P : Program} {q : Nat} {t : TypeId} {d : DV} {k : IntKind} (h : LeafD P q t d) (hu : P.underlying t = some (.int k)) : ∃ n, d = .int k n := by
  cases q with
  | zero => exact h.elim
  | succ q => unfold LeafD at h; simp only [hu] at h; exact h
theorem LeafD.bool {P : Program} {q : Nat} {t : TypeId} {d : DV} (h : LeafD P q t d) (hu : P.underlying t = some .bool) : ∃ n, d = .bool n := by
  cases q with
  | zero => exact h.elim
  | succ q => unfold LeafD at h; simp only [hu] at h; exact h
theorem LeafD.slice {P : Program} {q : Nat} {t e : TypeId} {d : DV} {ls : List TypeId} (h : LeafD P q t d) (hu : P.underlying t = some (.slice e)) (hl : lv P e = some ls) :
    ∃ n xs, d = .sl n xs ∧ n * P.bytesOf e ≤ reachBytes ∧ xs.length = n * ls.length ∧ ∀ (j : Nat) d', xs[j]? = some d' → ∃ t', ls[j % ls.length]? = some t' ∧ ∃ q, LeafD P q t' d' := by
  cases q with
  | zero => exact h.elim
  | succ q =>
    unfold LeafD at h; simp only [hu, hl] at h
    obtain ⟨n, xs, h1, h2, h3, h4⟩ := h
    exact ⟨n, xs, h1, h2, h3, fun j d' hj => let ⟨t', a, b⟩ := h4 j d' hj; ⟨t', a, q, b⟩⟩
theorem ParamR.oneB {P : Program} {t : TypeId} {r : RV} (h : ParamR P t r) (hu : P.underlying t = some .bool) : ∃ n, r = .d (.bool n) := by
  unfold ParamR at h
  simp only [hu] at h
  obtain ⟨d, rfl, h⟩ := h
  obtain ⟨n, rfl⟩ := LeafD.bool h hu
  exact ⟨n, rfl⟩
theorem LeafD.str {P : Program} {q : Nat} {t : TypeId} {d : DV} (h : LeafD P q t d) (hu : P.underlying t = some .string) : ∃ n, d = .str n := by
  cases q with
  | zero => exact h.elim
  | succ q => unfold LeafD at h; simp only [hu] at h; exact h
theorem ParamR.oneS {P : Program} {t : TypeId} {r : RV} (h : ParamR P t r) (hu : P.underlying t = some .string) : ∃ n, r = .d (.str n) := by
  unfold ParamR at h
  simp only [hu] at h
  obtain ⟨d, rfl, h⟩ := h
  obtain ⟨n, rfl⟩ := LeafD.str h hu
  exact ⟨n, rfl⟩
theorem ParamR.slice {P : Program} {t e : TypeId} {r : RV} {ls : List TypeId} (h : ParamR P t r) (hu : P.underlying t = some (.slice e)) (hl : lv P e = some ls) :
    ∃ n xs, r = .d (.sl n xs) ∧ n * P.bytesOf e ≤ reachBytes ∧ xs.length = n * ls.length ∧ ∀ (j : Nat) d', xs[j]? = some d' → ∃ t', ls[j % ls.length]? = some t' ∧ ∃ q, LeafD P q t' d' := by
  unfold ParamR at h
  simp only [hu] at h
  obtain ⟨d, rfl, h⟩ := h
  obtain ⟨n, xs, rfl, h2⟩ := LeafD.slice h hu hl
  exact ⟨n, xs, rfl, h2⟩
theorem intLeaf4 {P : Program} {t t' : TypeId} {q j : Nat} {d : DV} {k : IntKind} (hu : P.underlying t = some (.int k)) (a : [t, t, t, t][j % [t, t, t, t].length]? = some t') (b : LeafD P q t' d) : ∃ n, d = .int k n := by
  have : t' = t := by
    have h := List.mem_of_getElem? a
    simpa using h
  subst this
  exact b.int hu
theorem intLeaf1 {P : Program} {t t' : TypeId} {q j : Nat} {d : DV} {k : IntKind} (hu : P.underlying t = some (.int k)) (a : [t][j % [t].length]? = some t') (b : LeafD P q t' d) : ∃ n, d = .int k n := by
  have : t' = t := by
    have h := List.mem_of_getElem? a
    simpa using h
  subst this
  exact b.int hu
end Go.Proofs.Ytoljdijpmnadpaa
