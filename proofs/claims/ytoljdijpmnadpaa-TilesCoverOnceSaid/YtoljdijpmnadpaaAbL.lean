/-
  A region whose order is drawn: what is right in the order of the text is right in every order.
-/
import Derived.Test.YtoljdijpmnadpaaAbS
import Derived.OrdersIn
namespace Go.Proofs.Ytoljdijpmnadpaa
open Go.RowKit
set_option linter.unusedVariables false
set_option linter.unusedSimpArgs false

section
variable (P : Program) (Γ : Gam) (n : Dom) (ops : Array Oper)
/-- is an operation carried out: what its guard answers -/
def gv (s : AS) (o : Oper) : Option Bool :=
  match o.guard with
  | none => some true
  | some (j, want) => match (ops[j]?).bind (·.dst) with
    | none => none
    | some t => match s.tm t with
      | .tup [] => some false
      | x => x.bool?.map (· == want)
def astep (i : Nat) (s : AS) : Option (Prop × AS) :=
  match ops[i]? with
  | none => none
  | some o => match gv ops s o with
    | none => none
    | some true => aop P Γ n o s
    | some false => if dstIn n o then some (True, s.put o.dst (.tup [])) else none
def touch (i : Nat) (s : AS) : List Nat × List Nat :=
  match ops[i]? with
  | none => ([], [])
  | some o => match gv ops s o with
    | some true => match prep2 P Γ o s.eval with
      | some e => e.touch s.bx
      | none => ([], [])
    | _ => ([], [])
def Runs (τ : Nat → List Nat × List Nat) : List Nat → AS → AS → Prop
  | [], s, s' => s = s'
  | i :: R, s, s' => ∃ vc s1, astep P Γ n ops i s = some (vc, s1) ∧ vc ∧ touch P Γ ops i s = τ i ∧ Runs τ R s1 s'
def apartB (x y : List Nat × List Nat) : Bool :=
  (x.2.all fun b => !y.1.contains b && !y.2.contains b) && (y.2.all fun b => !x.1.contains b)
def indep (τ : Nat → List Nat × List Nat) (i j : Nat) : Bool :=
  match ops[i]?, ops[j]? with
  | some x, some y => x.apart ops y && apartB (τ i) (τ j)
  | _, _ => false
end

section
variable {P : Program} {Γ : Gam} {n : Dom} {ops : Array Oper}
theorem put_tm (s : AS) (d : Option Nat) (v : AV) (t : Nat) (h : d ≠ some t) : (s.put d v).tm t = s.tm t := by
  cases d with
  | none => rfl
  | some d => simp only [AS.put]; rw [if_neg (fun e => h (by rw [e]))]
theorem put_bx (s : AS) (d : Option Nat) (v : AV) : (s.put d v).bx = s.bx := by cases d <;> rfl
theorem setBs_bx_other : ∀ (bs : List Nat) (Bs : List Bx) (s : AS) (b : Nat), b ∉ bs → (s.setBs bs Bs).bx b = s.bx b
  | [], _, _, _, _ => by simp [AS.setBs]
  | _ :: _, [], _, _, _ => by simp [AS.setBs]
  | x :: bs, B :: Bs, s, b, h => by
    rw [AS.setBs, setBs_bx_other bs Bs _ b (fun e => h (by simp [e]))]
    simp only [AS.setB]
    rw [if_neg (fun e => h (by simp [e]))]
theorem setBs_bx_congr : ∀ (bs : List Nat) (Bs : List Bx) (s s' : AS) (b : Nat), (b ∉ bs → s.bx b = s'.bx b) → (Bs.length < bs.length → s.bx b = s'.bx b) → (s.setBs bs Bs).bx b = (s'.setBs bs Bs).bx b
  | [], _, _, _, _, h, _ => by simpa [AS.setBs] using h (by simp)
  | _ :: _, [], _, _, _, _, h => by simpa [AS.setBs] using h (by simp)
  | x :: bs, B :: Bs, s, s', b, h, h' => by
    rw [AS.setBs, AS.setBs]
    by_cases e : b = x
    · refine setBs_bx_congr bs Bs _ _ b (fun _ => by simp [AS.setB, e]) (fun _ => by simp [AS.setB, e])
    · refine setBs_bx_congr bs Bs _ _ b (fun hb => ?_) (fun hl => ?_)
      · simp only [AS.setB, if_neg e]; exact h (by simp [e, hb])
      · simp only [AS.setB, if_neg e]; exact h' (by simpa using hl)
/-- what an operation does, when it does: a value for its slot, contents for some boxes -/
theorem astep_form {i : Nat} {s s1 : AS} {vc : Prop} (h : astep P Γ n ops i s = some (vc, s1)) : ∃ o v wrs bs, ops[i]? = some o ∧ wrs = (touch P Γ ops i s).2 ∧ s1 = (s.setBs wrs bs).put o.dst v := by
  unfold astep at h
  split at h
  · cases h
  · rename_i o ho
    split at h
    · cases h
    · rename_i hg
      unfold aop at h
      split at h
      · split at h
        · rename_i e he
          split at h
          · rename_i vc' v ws hf
            simp only [Option.some.injEq, Prod.mk.injEq] at h
            obtain ⟨rfl, rfl⟩ := h
            exact ⟨o, v, ws.map (·.1), ws.map (·.2), ho, by simp [touch, ho, hg, he, Eff2.touch, hf], rfl⟩
          · cases h
        · cases h
      · cases h
    · rename_i hg
      split at h
      · simp only [Option.some.injEq, Prod.mk.injEq] at h
        obtain ⟨rfl, rfl⟩ := h
        exact ⟨o, .tup [], [], [], ho, by simp [touch, ho, hg], by simp [AS.setBs]⟩
      · cases h
/-- an operation does the same in two states that agree on what it looks at -/
theorem astep_congr {i : Nat} {o : Oper} (ho : ops[i]? = some o) {s s' : AS} (htm : ∀ t ∈ o.looksAt ops, s.tm t = s'.tm t) :
    (∀ b ∈ (touch P Γ ops i s).1, s.bx b = s'.bx b) → touch P Γ ops i s = touch P Γ ops i s' ∧ (∀ vc s1, astep P Γ n ops i s = some (vc, s1) →
      ∃ v bs, s1 = (s.setBs (touch P Γ ops i s).2 bs).put o.dst v ∧ astep P Γ n ops i s' = some (vc, (s'.setBs (touch P Γ ops i s).2 bs).put o.dst v)) := by
  have hgv : gv ops s o = gv ops s' o := by
    unfold gv
    cases hg : o.guard with
    | none => rfl
    | some jw =>
      obtain ⟨j, want⟩ := jw
      simp only
      cases ht : (ops[j]?).bind (·.dst) with
      | none => rfl
      | some t =>
        have : s.tm t = s'.tm t := htm t (by simp [Oper.looksAt, hg, ht])
        simp only [this]
  have hev : ∀ x ∈ o.op.operands, s.eval x = s'.eval x := fun x hx => by
    cases x with
    | tmp t => exact htm t (by simp only [Oper.looksAt, List.mem_append, List.mem_filterMap]; exact .inl ⟨_, by simpa using hx, rfl⟩)
    | const v => rfl
    | global g => rfl
    | func f => rfl
  have hprep : prep2 P Γ o s.eval = prep2 P Γ o s'.eval := prep2_congr hev
  intro hbx
  have htouch : touch P Γ ops i s = touch P Γ ops i s' := by
    simp only [touch, ho, ← hgv, ← hprep] at hbx ⊢
    cases hg : gv ops s o with
    | none => rfl
    | some g =>
      cases g with
      | false => rfl
      | true =>
        rw [hg] at hbx
        cases he : prep2 P Γ o s.eval with
        | none => rfl
        | some e =>
          rw [he] at hbx
          simp only at hbx ⊢
          exact e.touch_congr hbx
  refine ⟨htouch, fun vc s1 h => ?_⟩
  unfold astep at h ⊢
  simp only [ho] at h ⊢
  rw [← hgv]
  cases hg : gv ops s o with
  | none => rw [hg] at h; cases h
  | some g =>
    rw [hg] at h
    cases g with
    | false =>
      simp only at h ⊢
      split at h
      · rename_i hd
        simp only [Option.some.injEq, Prod.mk.injEq] at h
        obtain ⟨rfl, rfl⟩ := h
        have ht : (touch P Γ ops i s).2 = [] := by simp [touch, ho, hg]
        exact ⟨.tup [], [], by rw [ht]; simp [AS.setBs], by rw [ht, if_pos hd]; simp [AS.setBs]⟩
      · cases h
    | true =>
      simp only at h ⊢
      unfold aop at h ⊢
      split at h
      · rename_i hd
        rw [if_pos hd, ← hprep]
        cases he : prep2 P Γ o s.eval with
        | none => rw [he] at h; cases h
        | some e =>
          rw [he] at h
          simp only at h ⊢
          have ht : touch P Γ ops i s = e.touch s.bx := by simp [touch, ho, hg, he]
          rw [ht] at hbx
          obtain ⟨m1, m2⟩ := e.agree hbx
          rw [← m1] at m2 ⊢
          rw [← m2]
          cases hf : e.f (e.rds.map s.bx) ((e.more (e.rds.map s.bx)).map s.bx) with
          | none => rw [hf] at h; cases h
          | some r =>
            obtain ⟨vc', v, ws⟩ := r
            rw [hf] at h
            simp only [Option.some.injEq, Prod.mk.injEq] at h ⊢
            obtain ⟨rfl, rfl⟩ := h
            have ht2 : (touch P Γ ops i s).2 = ws.map (·.1) := by rw [ht]; simp [Eff2.touch, hf]
            exact ⟨v, ws.map (·.2), by rw [ht2]; rfl, rfl, by rw [ht2]; rfl⟩
      · cases h
theorem swap {τ : Nat → List Nat × List Nat} {i j : Nat} (hi : indep ops τ j i = true) {s s1 s2 : AS} {v1 v2 : Prop}
    (h1 : astep P Γ n ops j s = some (v1, s1)) (t1 : touch P Γ ops j s = τ j) (h2 : astep P Γ n ops i s1 = some (v2, s2)) (t2 : touch P Γ ops i s1 = τ i) :
    ∃ s1', astep P Γ n ops i s = some (v2, s1') ∧ touch P Γ ops i s = τ i ∧ astep P Γ n ops j s1' = some (v1, s2) ∧ touch P Γ ops j s1' = τ j := by
  unfold indep at hi
  split at hi
  · rename_i oj oi hoj hoi
    simp only [Bool.and_eq_true] at hi
    obtain ⟨hap, hb⟩ := hi
    obtain ⟨a1, a2, a3⟩ := Oper.apart_spec hap
    simp only [apartB, Bool.and_eq_true, List.all_eq_true, Bool.not_eq_true'] at hb
    obtain ⟨b1, b2⟩ := hb
    -- the first operation's form
    obtain ⟨o', v, wrs, bs, ho', hw, hs1⟩ := astep_form h1
    rw [hoj] at ho'
    injection ho' with ho'
    subst ho'
    rw [t1] at hw
    -- what the second looks at is as it was
    have htm1 : ∀ t ∈ oi.looksAt ops, s1.tm t = s.tm t := fun t ht => by
      rw [hs1, put_tm _ _ _ _ (fun e => a1 t e ht), setBs_tm]
    have hbx1 : ∀ b, b ∉ (τ j).2 → s1.bx b = s.bx b := fun b hb => by
      rw [hs1, put_bx, setBs_bx_other _ _ _ _ (by rw [hw]; exact hb)]
    obtain ⟨c1, c2⟩ := astep_congr (P := P) (Γ := Γ) (n := n) hoi htm1 (by
      rw [t2]
      exact fun b hb => hbx1 b (fun hm => by
        have := b1 b hm
        simp only [List.contains_eq_mem, decide_eq_false_iff_not] at this
        exact this.1 hb))
    rw [t2] at c1 c2
    obtain ⟨v', bs', e1, e2⟩ := c2 _ _ h2
    -- and the first, behind the second
    have htm2 : ∀ t ∈ oj.looksAt ops, s.tm t = ((s.setBs (τ i).2 bs').put oi.dst v').tm t := fun t ht => by
      rw [put_tm _ _ _ _ (fun e => a3 t e ht), setBs_tm]
    obtain ⟨d1, d2⟩ := astep_congr (P := P) (Γ := Γ) (n := n) hoj htm2 (by
      rw [t1]
      intro b hb
      rw [put_bx, setBs_bx_other]
      intro hm
      have := b2 b hm
      simp only [List.contains_eq_mem, decide_eq_false_iff_not] at this
      exact this hb)
    rw [t1] at d1 d2
    obtain ⟨v'', bs'', f1, f2⟩ := d2 _ _ h1
    refine ⟨_, e2, c1.symm, ?_, d1.symm⟩
    rw [f2]
    congr 1
    congr 1
    rw [e1, f1]
    apply AS.ext'
    · funext t
      have q : ∀ (s : AS) (d : Option Nat) (x : AV) (bs : List Nat) (Bs : List Bx), ((s.setBs bs Bs).put d x).tm = (s.put d x).tm := fun s d x bs Bs => by
        cases d with
        | none => simp [AS.put, setBs_tm]
        | some d => simp [AS.put, setBs_tm]
      by_cases g1 : oj.dst = some t
      · have g2 : oi.dst ≠ some t := a2 t g1
        rw [put_tm _ oi.dst _ _ g2, setBs_tm, g1]
        simp [AS.put]
      · rw [put_tm _ oj.dst _ _ g1, setBs_tm]
        by_cases g2 : oi.dst = some t
        · rw [g2]; simp [AS.put]
        · rw [put_tm _ oi.dst _ _ g2, put_tm _ oi.dst _ _ g2, setBs_tm, setBs_tm, put_tm _ oj.dst _ _ g1, setBs_tm]
    · funext b
      rw [put_bx, put_bx]
      by_cases g1 : b ∈ (τ j).2
      · have hni : b ∉ (τ i).2 := fun hm => by
          have := b1 b g1
          simp only [List.contains_eq_mem, decide_eq_false_iff_not] at this
          exact this.2 hm
        rw [setBs_bx_other (τ i).2 bs' _ b hni, put_bx]
        refine setBs_bx_congr _ _ _ _ _ (fun h => absurd g1 h) (fun _ => ?_)
        rw [put_bx, setBs_bx_other _ _ _ _ hni]
      · rw [setBs_bx_other (τ j).2 bs'' _ b g1, put_bx]
        refine setBs_bx_congr _ _ _ _ _ (fun _ => ?_) (fun _ => ?_) <;> rw [put_bx, setBs_bx_other _ _ _ _ g1]
  · cases hi
theorem front {τ : Nat → List Nat × List Nat} {i : Nat} {B : List Nat} {s' : AS} : ∀ {A : List Nat} {s : AS}, (∀ j ∈ A, indep ops τ j i = true) → Runs P Γ n ops τ (A ++ i :: B) s s' →
    ∃ vc s1, astep P Γ n ops i s = some (vc, s1) ∧ vc ∧ touch P Γ ops i s = τ i ∧ Runs P Γ n ops τ (A ++ B) s1 s'
  | [], s, _, h => h
  | j :: A, s, hA, h => by
    obtain ⟨vj, sj, h1, h2, h3, h4⟩ := h
    obtain ⟨vi, si, g1, g2, g3, g4⟩ := front (fun k hk => hA k (by simp [hk])) h4
    obtain ⟨s1', e1, e2, e3, e4⟩ := swap (hA j (by simp)) h1 h3 g1 g3
    exact ⟨vi, s1', e1, g2, e2, vj, si, e3, h2, e4, g4⟩
end

section
variable (ops : Array Oper)
def isAfter (j i : Nat) : Bool := (ops[i]?).any fun o => o.after.any fun e => Region.binds .any e && e.on == j
/-- what must come ahead of an operation, directly or through others: as the bits of a number -/
def maskE (k : Nat) (t : List Nat) : List Edge → Nat
  | [] => 0
  | e :: es => match Region.binds .any e && decide (e.on < k) with
    | true => (2 ^ e.on ||| t.getD e.on 0) ||| maskE k t es
    | false => maskE k t es
def maskTab : Nat → List Nat
  | 0 => []
  | k + 1 => maskTab k ++ [match ops[k]? with
    | some o => maskE k (maskTab k) o.after.toList
    | none => 0]
def isBefore (j i : Nat) : Bool := ((maskTab ops ops.size).getD i 0).testBit j
/-- what is listed has all that must come ahead of it listed -/
def Listed (listed : Array Bool) : Prop := ∀ i o, ops[i]? = some o → listed.getD i true = true → i < listed.size → ∀ e ∈ o.after.toList, Region.binds .any e = true → listed.getD e.on false = true
theorem maskTab_len : ∀ k, (maskTab ops k).length = k
  | 0 => rfl
  | k + 1 => by simp [maskTab, maskTab_len k]
theorem maskTab_at : ∀ {n k : Nat}, k < n → (maskTab ops n).getD k 0 = match ops[k]? with
    | some o => maskE k (maskTab ops k) o.after.toList
    | none => 0
  | n + 1, k, h => by
    simp only [maskTab, List.getD_eq_getElem?_getD]
    by_cases e : k < n
    · rw [List.getElem?_append_left (by rw [maskTab_len]; exact e)]
      have := maskTab_at (n := n) e
      rwa [List.getD_eq_getElem?_getD] at this
    · have : k = n := by omega
      subst this
      rw [List.getElem?_append_right (by rw [maskTab_len]; omega), maskTab_len]
      simp
theorem maskE_bit {k j : Nat} {t : List Nat} : ∀ {es : List Edge}, (maskE k t es).testBit j = true → ∃ e ∈ es, Region.binds .any e = true ∧ e.on < k ∧ (e.on = j ∨ (t.getD e.on 0).testBit j = true)
  | [], h => by simp [maskE] at h
  | e :: es, h => by
    simp only [maskE] at h
    cases hb : Region.binds .any e && decide (e.on < k) with
    | false =>
      rw [hb] at h
      obtain ⟨e', h1, h2⟩ := maskE_bit h
      exact ⟨e', by simp [h1], h2⟩
    | true =>
      rw [hb] at h
      simp only [Nat.testBit_or, Bool.or_eq_true, Nat.testBit_two_pow] at h
      simp only [Bool.and_eq_true, decide_eq_true_eq] at hb
      rcases h with (h | h) | h
      · exact ⟨e, by simp, hb.1, hb.2, .inl (by simpa using h)⟩
      · exact ⟨e, by simp, hb.1, hb.2, .inr h⟩
      · obtain ⟨e', h1, h2⟩ := maskE_bit h
        exact ⟨e', by simp [h1], h2⟩
theorem before_listed {listed : Array Bool} (hc : Listed ops listed) (hsz : listed.size = ops.size) : ∀ (i j : Nat) (o : Oper), ops[i]? = some o → (∀ e ∈ o.after.toList, Region.binds .any e = true → listed.getD e.on false = true) → isBefore ops j i = true → listed.getD j false = true := by
  intro i
  induction i using Nat.strongRecOn with
  | ind i ih =>
    intro j o ho haft hb
    have hi : i < ops.size := (Array.getElem?_eq_some_iff.1 ho).1
    unfold isBefore at hb
    rw [maskTab_at ops hi, ho] at hb
    obtain ⟨e, h1, h2, h3, h4⟩ := maskE_bit hb
    have hl := haft e h1 h2
    rcases h4 with rfl | h4
    · exact hl
    · have he : e.on < ops.size := by omega
      refine ih e.on h3 j ops[e.on] (Array.getElem?_eq_getElem he) ?_ ?_
      · refine hc e.on _ (Array.getElem?_eq_getElem he) ?_ (by omega)
        have : e.on < listed.size := by omega
        simp [Array.getD, this] at hl ⊢
        exact hl
      · unfold isBefore
        rw [maskTab_at ops he]
        rw [maskTab_at ops h3] at h4
        exact h4
/-- operations that may change places do not touch one another -/
def regOK (τ : Nat → List Nat × List Nat) : Bool :=
  (List.range ops.size).all fun i => ((ops[i]?).any fun o => o.after.all fun e => !Region.binds .any e || decide (e.on < i)) && (List.range i).all fun j => isBefore ops j i || indep ops τ j i
end
section
variable {P : Program} {Γ : Gam} {n : Dom} {ops : Array Oper}
theorem gv_wanted {w0 : World} {S : Scope} {s : AS} {ι : Names} {a : Act} {w : World} (h : RepS w0 S n s ι a w) {o : Oper} {g : Bool} (hg : gv ops s o = some g) : Region.wanted o (yielded ops a.tmps) = g := by
  unfold gv at hg
  unfold Region.wanted
  cases ho : o.guard with
  | none => rw [ho] at hg; simp only [Option.some.injEq] at hg; exact hg
  | some jw =>
    obtain ⟨j, want⟩ := jw
    rw [ho] at hg
    simp only at hg ⊢
    cases ht : (ops[j]?).bind (·.dst) with
    | none => rw [ht] at hg; cases hg
    | some t =>
      rw [ht] at hg
      simp only at hg
      have hr := h.tm t
      unfold yielded
      rw [ht]
      simp only [Option.bind_some]
      split at hg
      · rename_i hs
        rw [hs] at hr
        simp only [RepAV] at hr
        obtain ⟨cur, e, hc⟩ := hr
        have hcur : cur = #[] := by
          cases hcl : cur.toList with
          | nil => exact Array.toList_eq_nil_iff.1 hcl
          | cons _ _ => rw [hcl] at hc; simp only [RepAVs] at hc
        subst hcur
        simp only [Option.some.injEq] at hg
        subst hg
        rw [Array.getD_eq_getD_getElem?] at e
        cases hx : a.tmps[t]? with
        | none => rfl
        | some x =>
          rw [hx] at e
          simp only [Option.getD_some] at e
          subst e
          rfl
      · cases hb : (s.tm t).bool? with
        | none => rw [hb] at hg; cases hg
        | some b =>
          rw [hb] at hg
          simp only [Option.map_some, Option.some.injEq] at hg
          subst hg
          have e := rep_bool hr hb
          rw [Array.getD_eq_getD_getElem?] at e
          cases hx : a.tmps[t]? with
          | none => rw [hx] at e; simp [undef] at e
          | some x =>
            rw [hx] at e
            simp only [Option.getD_some] at e
            subst e
            simp only
            cases b <;> cases want <;> rfl
/-- one step, in the model -/
theorem astep_sound {F : Fence} {m : Nat} (hF : Wide F) {w0 : World} {S : Scope} {s s1 : AS} {ι : Names} {a : Act} {w : World} {i : Nat} {vc : Prop} (h : astep P Γ n ops i s = some (vc, s1)) (hr : RepS w0 S n s ι a w) (hvc : vc) {K : Act → World → Prop} {Q : Exit → Act → World → Prop}
    (hK : ∀ ι' a' w', RepS w0 S n s1 ι' a' w' → K a' w') : wpOpIn F m P ops Q i K a w := by
  unfold astep at h
  unfold Go.wpOpIn
  split at h
  · cases h
  · rename_i o ho
    simp only [ho]
    split at h
    · cases h
    · rename_i hg
      rw [if_pos (gv_wanted hr hg)]
      exact Oper.wpIn_of_wp hF (aop_nodefer h) (aop_sound h hr hvc hK)
    · rename_i hg
      rw [gv_wanted hr hg, if_neg (by simp)]
      split at h
      · rename_i hd
        simp only [Option.some.injEq, Prod.mk.injEq] at h
        obtain ⟨rfl, rfl⟩ := h
        refine ⟨fun _ _ => hF.fn _, hK ι _ w (hr.put (fun k hk => ?_) (by simp only [RepAV]; exact ⟨_, rfl, by simp only [RepAVs]⟩))⟩
        unfold dstIn at hd
        rw [hk] at hd
        simpa using hd
      · cases h
/-- in the order of the text -/
theorem runs_wpOps {F : Fence} {m : Nat} (hF : Wide F) {τ : Nat → List Nat × List Nat} {w0 : World} {S : Scope} {Q : Exit → Act → World → Prop} {s' : AS} : ∀ {R : List Nat} {s : AS} {ι : Names} {a : Act} {w : World}, Runs P Γ n ops τ R s s' → RepS w0 S n s ι a w →
    (∀ ι' a' w', RepS w0 S n s' ι' a' w' → Q .normal a' w') → wpOpsIn F m P ops Q R a w
  | [], s, ι, a, w, h, hr, hQ => by
    have h : s = s' := h
    subst h; exact hQ ι a w hr
  | i :: R, s, ι, a, w, ⟨vc, s1, h1, h2, _, h4⟩, hr, hQ => by
    rw [wpOpsIn_cons]
    exact astep_sound hF h1 hr h2 fun ι' a' w' hr' => runs_wpOps hF h4 hr' hQ
def left (ops : Array Oper) (listed : Array Bool) : List Nat := (List.range ops.size).filter fun i => !listed.getD i true
theorem runs_any {F : Fence} {m : Nat} (hF : Wide F) {τ : Nat → List Nat × List Nat} (hok : regOK ops τ = true) {w0 : World} {S : Scope} {Q : Exit → Act → World → Prop} {s' : AS} (hQ : ∀ ι' a' w', RepS w0 S n s' ι' a' w' → Q .normal a' w') :
    ∀ (fuel : Nat) (listed : Array Bool) (s : AS) (ι : Names) (a : Act) (w : World), Listed ops listed → listed.size = ops.size → (left ops listed).length ≤ fuel → Runs P Γ n ops τ (left ops listed) s s' → RepS w0 S n s ι a w → wpAnyIn F m P .any ops Q fuel listed a w := by
  simp only [regOK, List.all_eq_true, Bool.and_eq_true] at hok
  have hready : ∀ (listed : Array Bool) i, i ∈ Region.ready .any ops listed ↔ i < ops.size ∧ listed.getD i true = false ∧ ((ops[i]?).map (·.after.all fun e => !Region.binds .any e || listed.getD e.on false)).getD false = true := by
    intro listed i
    simp [Region.ready, List.mem_filter]
  have hempty : ∀ listed : Array Bool, listed.size = ops.size → Region.ready .any ops listed = [] → left ops listed = [] := by
    intro listed hsz hr
    -- else the least one that is left is ready
    cases hl : left ops listed with
    | nil => rfl
    | cons i R =>
      exfalso
      have hi : i ∈ left ops listed := by rw [hl]; simp
      simp only [left, List.mem_filter, List.mem_range, Bool.not_eq_true'] at hi
      have hsorted : ∀ j, j < i → listed.getD j true = true := by
        intro j hj
        cases hjv : listed.getD j true with
        | true => rfl
        | false =>
          exfalso
          have hjm : j ∈ left ops listed := by
            simp only [left, List.mem_filter, List.mem_range, Bool.not_eq_true']
            exact ⟨by omega, hjv⟩
          have hp : (left ops listed).Pairwise (· < ·) := List.Pairwise.filter _ List.pairwise_lt_range
          rw [hl] at hjm hp
          rcases List.mem_cons.1 hjm with e | hm
          · omega
          · have := (List.pairwise_cons.1 hp).1 j hm
            omega
      have : i ∈ Region.ready .any ops listed := by
        rw [hready]
        refine ⟨hi.1, hi.2, ?_⟩
        have h1 := (hok i (List.mem_range.2 hi.1)).1
        cases ho : ops[i]? with
        | none => rw [ho] at h1; simp at h1
        | some o =>
          rw [ho] at h1
          simp only [Option.any_some, Option.map_some, Option.getD_some] at h1 ⊢
          rw [Array.all_eq_true_iff_forall_mem] at h1 ⊢
          intro e he
          have h2 := h1 e he
          simp only [Bool.or_eq_true, Bool.not_eq_true', decide_eq_true_eq] at h2 ⊢
          rcases h2 with h2 | h2
          · exact .inl h2
          · right
            have h3 := hsorted e.on h2
            have hlt : e.on < listed.size := by omega
            simp [Array.getD, hlt] at h3 ⊢
            exact h3
      rw [hr] at this
      simp at this
  intro fuel
  induction fuel with
  | zero =>
    intro listed s ι a w hcl hsz hl hruns hr
    have h0 : left ops listed = [] := List.eq_nil_of_length_eq_zero (by omega)
    rw [h0] at hruns
    have hs : s = s' := hruns
    subst hs
    refine ⟨?_, hQ ι a w hr⟩
    cases hre : Region.ready .any ops listed with
    | nil => rfl
    | cons i R =>
      exfalso
      have : i ∈ Region.ready .any ops listed := by rw [hre]; simp
      rw [hready] at this
      have hm : i ∈ left ops listed := by
        simp only [left, List.mem_filter, List.mem_range, Bool.not_eq_true']
        exact ⟨this.1, this.2.1⟩
      rw [h0] at hm
      simp at hm
  | succ fuel ih =>
    intro listed s ι a w hcl hsz hl hruns hr
    refine ⟨fun he => ?_, fun i hi => ?_⟩
    · have h0 := hempty listed hsz he
      rw [h0] at hruns
      have hs : s = s' := hruns
      subst hs
      exact hQ ι a w hr
    · rw [hready] at hi
      obtain ⟨hlt, hnl, haft⟩ := hi
      have hm : i ∈ left ops listed := by
        simp only [left, List.mem_filter, List.mem_range, Bool.not_eq_true']
        exact ⟨hlt, hnl⟩
      obtain ⟨A, B, hAB⟩ := List.append_of_mem hm
      have hp : (left ops listed).Pairwise (· < ·) := List.Pairwise.filter _ List.pairwise_lt_range
      rw [hAB] at hp
      have hA : ∀ j ∈ A, j < i ∧ listed.getD j true = false := fun j hj => by
        refine ⟨(List.pairwise_append.1 hp).2.2 j hj i (by simp), ?_⟩
        have : j ∈ left ops listed := by rw [hAB]; simp [hj]
        simp only [left, List.mem_filter, List.mem_range, Bool.not_eq_true'] at this
        exact this.2
      have hind : ∀ j ∈ A, indep ops τ j i = true := fun j hj => by
        obtain ⟨h1, h2⟩ := hA j hj
        have h3 := (hok i (List.mem_range.2 hlt)).2 j (List.mem_range.2 h1)
        simp only [Bool.or_eq_true] at h3
        rcases h3 with h3 | h3
        · exfalso
          cases ho : ops[i]? with
          | none => rw [ho] at haft; simp at haft
          | some o =>
            rw [ho] at haft
            simp only [Option.map_some, Option.getD_some] at haft
            have h4 := before_listed ops hcl hsz i j o ho (fun e he hb => by
              have := Array.all_eq_true_iff_forall_mem.1 haft e (Array.mem_toList_iff.1 he)
              simpa [hb] using this) h3
            by_cases hlt' : j < listed.size
            · simp [Array.getD, hlt'] at h2 h4
              rw [h2] at h4; cases h4
            · simp [Array.getD, hlt'] at h2
        · exact h3
      rw [hAB] at hruns
      obtain ⟨vc, s1, g1, g2, _, g4⟩ := front hind hruns
      have hleft : left ops (listed.setIfInBounds i true) = A ++ B := by
        have hnodup : (left ops listed).Nodup := (List.nodup_range).filter _
        have e1 : left ops (listed.setIfInBounds i true) = (left ops listed).filter fun k => decide (k ≠ i) := by
          simp only [left, List.filter_filter]
          apply List.filter_congr
          intro k hk
          have hk' : k < ops.size := List.mem_range.1 hk
          by_cases e : k = i
          · subst e
            simp [Array.getD, hsz, hlt]
          · have : (listed.setIfInBounds i true).getD k true = listed.getD k true := by
              simp only [Array.getD_eq_getD_getElem?, Array.getElem?_setIfInBounds_ne (Ne.symm e)]
            rw [this]; simp [e]
        rw [e1, hAB, List.filter_append, List.filter_cons]
        rw [hAB] at hnodup
        have hn := List.nodup_append.1 hnodup
        have hA' : A.filter (fun k => decide (k ≠ i)) = A := List.filter_eq_self.2 fun k hk => by
          have := (hA k hk).1
          simp; omega
        have hB' : B.filter (fun k => decide (k ≠ i)) = B := List.filter_eq_self.2 fun k hk => by
          have : i ≠ k := fun e => by
            have := (List.nodup_cons.1 hn.2.1).1
            exact this (by rw [e]; exact hk)
          simp; exact Ne.symm this
        rw [hA', hB']
        simp
      refine astep_sound hF g1 hr g2 fun ι' a' w' hr' => ?_
      have hcl2 : Listed ops (listed.setIfInBounds i true) := by
        intro k ok hk hkl hks e he hb
        have hmono : ∀ q, listed.getD q false = true → (listed.setIfInBounds i true).getD q false = true := fun q hq => by
          by_cases e' : q = i
          · subst e'
            simp [Array.getD, hsz, hlt]
          · simp only [Array.getD_eq_getD_getElem?, Array.getElem?_setIfInBounds_ne (Ne.symm e')] at hq ⊢
            exact hq
        refine hmono _ ?_
        by_cases e' : k = i
        · subst e'
          rw [hk] at haft
          simp only [Option.map_some, Option.getD_some] at haft
          have := Array.all_eq_true_iff_forall_mem.1 haft e (Array.mem_toList_iff.1 he)
          simpa [hb] using this
        · have hkl' : listed.getD k true = true := by
            simp only [Array.getD_eq_getD_getElem?, Array.getElem?_setIfInBounds_ne (Ne.symm e')] at hkl ⊢
            exact hkl
          exact hcl k ok hk hkl' (by simpa using hks) e he hb
      refine ih _ s1 ι' a' w' hcl2 (by simpa using hsz) ?_ (by rw [hleft]; exact g4) hr'
      rw [hleft]
      have : (left ops listed).length = (A ++ B).length + 1 := by rw [hAB]; simp; omega
      omega
end
end Go.Proofs.Ytoljdijpmnadpaa
