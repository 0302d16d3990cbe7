/-
  What is to be shown of a function's text, as one plain statement; and that it suffices.
-/
import Derived.Test.YtoljdijpmnadpaaAbL
import Derived.Deep.LoopGhost
namespace Go.Proofs.Ytoljdijpmnadpaa
open Go.RowKit
set_option linter.unusedVariables false
set_option linter.unusedSimpArgs false

/-! ### bools that are known -/
abbrev Kn := Nat → Option Bool
def kx (kn : Kn) : Operand → Option Bool
  | .const (.bool b) => some b
  | .tmp t => kn t
  | _ => none
def knOf (kn : Kn) : Op → Option Bool
  | .move x | .assign x => kx kn x
  | .pick c x y => match kx kn c with
    | some true => kx kn x
    | some false => kx kn y
    | none => none
  | .unOp .not _ x => (kx kn x).map (!·)
  | _ => none
def knPut (kn : Kn) (d : Option Nat) (b : Option Bool) : Kn :=
  match d with
  | some d => fun t => if t = d then b else kn t
  | none => kn
def setBool (x : AV) (b : Bool) : AV :=
  match x with
  | .one (.d (.bool _)) => .one (.d (.bool b))
  | .one (.lit (.bool _)) => .one (.lit (.bool b))
  | x => x
def AS.fix (s : AS) (t : Nat) (b : Bool) : AS := s.put (some t) (setBool (s.tm t) b)
def KnOK (kn : Kn) (s : AS) : Prop := ∀ t b, kn t = some b → (s.tm t).bool? = some b

inductive Gd where
  | stuck
  | yes
  | no
  | ask (t : Nat) (b want : Bool)
def gd (ops : Array Oper) (kn : Kn) (s : AS) (o : Oper) : Gd :=
  match o.guard with
  | none => .yes
  | some (j, want) => match (ops[j]?).bind (·.dst) with
    | none => .stuck
    | some t => match kn t with
      | some b => if b = want then .yes else .no
      | none => match s.tm t with
        | .tup [] => .no
        | .one (.d (.bool b)) => .ask t b want
        | .one (.lit (.bool b)) => .ask t b want
        | _ => .stuck

section
variable (P : Program) (Γ : Gam) (n : Dom)
/-- one operation that is carried out, with the boxes that it touches -/
def aopT (o : Oper) (s : AS) : Option (Prop × AS × (List Nat × List Nat)) :=
  if dstIn n o then
    match prep2 P Γ o s.eval with
    | some e => match e.f (e.rds.map s.bx) ((e.more (e.rds.map s.bx)).map s.bx) with
      | some (vc, v, ws) => some (vc, (s.setL ws).put o.dst v, (e.rds ++ e.more (e.rds.map s.bx), ws.map (·.1)))
      | none => none
    | none => none
  else none
def vcRun (ops : Array Oper) : List Nat → Kn → AS → List (List Nat × List Nat) → (Kn → AS → List (List Nat × List Nat) → Prop) → Prop
  | [], kn, s, acc, Q => Q kn s acc
  | i :: R, kn, s, acc, Q =>
    match ops[i]? with
    | none => False
    | some o => match gd ops kn s o with
      | .stuck => False
      | .yes => match aopT P Γ n o s with
        | some (vc, s', t) => vc ∧ vcRun ops R (knPut kn o.dst (knOf kn o.op)) s' (t :: acc) Q
        | none => False
      | .no => match dstIn n o with
        | true => vcRun ops R (knPut kn o.dst none) (s.put o.dst (.tup [])) (([], []) :: acc) Q
        | false => False
      | .ask t b want =>
        (b = want → match aopT P Γ n o (s.fix t want) with
          | some (vc, s', th) => vc ∧ vcRun ops R (knPut (knPut kn (some t) (some want)) o.dst (knOf (knPut kn (some t) (some want)) o.op)) s' (th :: acc) Q
          | none => False) ∧
        (b = (!want) → match dstIn n o with
          | true => vcRun ops R (knPut (knPut kn (some t) (some (!want))) o.dst none) ((s.fix t (!want)).put o.dst (.tup [])) (([], []) :: acc) Q
          | false => False)
end

theorem bool_shape {x : AV} {b : Bool} (h : x.bool? = some b) : setBool x b = x := by
  unfold AV.bool? at h
  split at h
  · injection h with h; subst h; rfl
  · injection h with h; subst h; rfl
  · cases h
theorem fix_same {s : AS} {t : Nat} {b : Bool} (h : (s.tm t).bool? = some b) : s.fix t b = s := by
  unfold AS.fix
  rw [bool_shape h]
  apply AS.ext'
  · funext t'
    simp only [AS.put]
    split
    · rename_i e; rw [e]
    · rfl
  · rfl
theorem kx_ok {kn : Kn} {s : AS} (h : KnOK kn s) {x : Operand} {b : Bool} (hx : kx kn x = some b) : (s.eval x).bool? = some b := by
  unfold kx at hx
  split at hx
  · injection hx with hx; subst hx; rfl
  · exact h _ _ hx
  · cases hx
section
variable {P : Program} {Γ : Gam} {n : Dom} {ops : Array Oper}
theorem aopT_aop {o : Oper} {s s' : AS} {vc : Prop} {t : List Nat × List Nat} (h : aopT P Γ n o s = some (vc, s', t)) : aop P Γ n o s = some (vc, s') ∧ ∃ e, prep2 P Γ o s.eval = some e ∧ t = e.touch s.bx := by
  unfold aopT at h
  unfold aop
  split at h
  · rename_i hd
    rw [if_pos hd]
    split at h
    · rename_i e he
      split at h
      · rename_i vc' v ws hf
        simp only [Option.some.injEq, Prod.mk.injEq] at h
        obtain ⟨rfl, rfl, rfl⟩ := h
        refine ⟨?_, e, he, by simp [Eff2.touch, hf]⟩
        rw [he]
        simp only [hf]
      · cases h
    · cases h
  · cases h
theorem kn_put {kn : Kn} {s s' : AS} (h : KnOK kn s) {o : Oper} {vc : Prop} (ha : aop P Γ n o s = some (vc, s')) : KnOK (knPut kn o.dst (knOf kn o.op)) s' := by
  unfold aop at ha
  split at ha
  · split at ha
    · rename_i e he
      split at ha
      · rename_i vc' v bs hf
        simp only [Option.some.injEq, Prod.mk.injEq] at ha
        obtain ⟨rfl, rfl⟩ := ha
        intro t b hb
        cases hd : o.dst with
        | none =>
          rw [hd] at hb
          have hb : kn t = some b := hb
          show ((s.setL bs).tm t).bool? = some b
          rw [AS.setL, setBs_tm]
          exact h t b hb
        | some d =>
          rw [hd] at hb
          simp only [knPut] at hb
          by_cases e1 : t = d
          · rw [if_pos e1] at hb
            simp only [AS.put, if_pos e1]
            -- the value itself
            unfold knOf at hb
            unfold prep2 at he
            have he' : (prep P Γ o s.eval).map Eff.up = some e := by
              split at he
              · rename_i c hc
                rw [hc] at hb
                cases hb
              · exact he
            clear he
            obtain ⟨e0, he, rfl⟩ := Option.map_eq_some_iff.1 he'
            clear he'
            simp only [Eff.up] at hf
            obtain ⟨⟨vc0, v0, bs0⟩, hf2, hf'⟩ := Option.map_eq_some_iff.1 hf
            clear hf
            have hf := hf2
            clear hf2
            simp only [Prod.mk.injEq] at hf'
            obtain ⟨rfl, rfl, rfl⟩ := hf'
            unfold prep at he
            split at hb
            · rename_i x hop
              rw [hop] at he
              simp only [Option.some.injEq] at he
              subst he
              simp only [Eff.val, Option.some.injEq, Prod.mk.injEq] at hf
              rw [← hf.2.1]; exact kx_ok h hb
            · rename_i x hop
              rw [hop] at he
              simp only [Option.some.injEq] at he
              subst he
              simp only [Eff.val, Option.some.injEq, Prod.mk.injEq] at hf
              rw [← hf.2.1]; exact kx_ok h hb
            · rename_i c x y hop
              rw [hop] at he
              simp only [opPick] at he
              split at hb
              · rename_i hc
                rw [kx_ok h hc] at he
                simp only [Option.some.injEq] at he
                subst he
                simp only [Eff.val, Option.some.injEq, Prod.mk.injEq] at hf
                rw [← hf.2.1]; exact kx_ok h hb
              · rename_i hc
                rw [kx_ok h hc] at he
                simp only [Option.some.injEq] at he
                subst he
                simp only [Eff.val, Option.some.injEq, Prod.mk.injEq] at hf
                rw [← hf.2.1]; exact kx_ok h hb
              · cases hb
            · rename_i t' x hop
              rw [hop] at he
              simp only [opUn] at he
              cases hx : kx kn x with
              | none => rw [hx] at hb; cases hb
              | some bx =>
                rw [hx] at hb
                simp only [Option.map_some, Option.some.injEq] at hb
                have := kx_ok h hx
                unfold AV.bool? at this
                split at this
                · rename_i b' hs
                  rw [hs] at he
                  simp only [Option.some.injEq] at this he
                  subst this he
                  simp only [Eff.val, Option.some.injEq, Prod.mk.injEq] at hf
                  rw [← hf.2.1, ← hb]; rfl
                · rename_i b' hs
                  rw [hs] at he
                  simp only [Option.some.injEq] at this he
                  subst this he
                  simp only [Eff.val, Option.some.injEq, Prod.mk.injEq] at hf
                  rw [← hf.2.1, ← hb]; rfl
                · cases this
            · cases hb
          · rw [if_neg e1] at hb
            simp only [AS.put, if_neg e1]
            rw [AS.setL, setBs_tm]
            exact h t b hb
      · cases ha
    · cases ha
  · cases ha
theorem kn_fix {kn : Kn} {s : AS} (h : KnOK kn s) {t : Nat} {b : Bool} (ht : (s.tm t).bool? = some b) : KnOK (knPut kn (some t) (some b)) s := by
  intro t' b' hb
  simp only [knPut] at hb
  by_cases e : t' = t
  · rw [if_pos e] at hb; injection hb with hb; subst hb; rw [e]; exact ht
  · rw [if_neg e] at hb; exact h _ _ hb
theorem kn_skip {kn : Kn} {s : AS} (h : KnOK kn s) (d : Option Nat) : KnOK (knPut kn d none) (s.put d (.tup [])) := by
  intro t b hb
  cases d with
  | none => exact h t b hb
  | some d =>
    simp only [knPut] at hb
    by_cases e : t = d
    · rw [if_pos e] at hb; cases hb
    · rw [if_neg e] at hb
      simp only [AS.put, if_neg e]
      exact h t b hb
def Ran (P : Program) (Γ : Gam) (n : Dom) (ops : Array Oper) (R : List Nat) (s : AS) (acc : List (List Nat × List Nat)) (Q : Kn → AS → List (List Nat × List Nat) → Prop) : Prop :=
  ∃ (kn' : Kn) (s' : AS) (ts : List (List Nat × List Nat)), Q kn' s' (ts.reverse ++ acc) ∧ KnOK kn' s' ∧ ts.length = R.length ∧ ∀ τ : Nat → List Nat × List Nat, (∀ (k : Nat) (i : Nat), R[k]? = some i → τ i = ts.getD k ([], [])) → Runs P Γ n ops τ R s s'
theorem vcRun_runs : ∀ {R : List Nat} {kn : Kn} {s : AS} {acc : List (List Nat × List Nat)} {Q : Kn → AS → List (List Nat × List Nat) → Prop}, vcRun P Γ n ops R kn s acc Q → KnOK kn s →
    Ran P Γ n ops R s acc Q
  | [], kn, s, acc, Q, h, hk => ⟨kn, s, [], h, hk, rfl, fun τ _ => rfl⟩
  | i :: R, kn, s, acc, Q, h, hk => by
    have yes : ∀ {o : Oper} {kn1 : Kn}, ops[i]? = some o → gv ops s o = some true → KnOK kn1 s → (match aopT P Γ n o s with
        | some (vc, s', t) => vc ∧ vcRun P Γ n ops R (knPut kn1 o.dst (knOf kn1 o.op)) s' (t :: acc) Q
        | none => False) → Ran P Γ n ops (i :: R) s acc Q := by
      intro o kn1 ho hg hk1 h
      split at h
      · rename_i vc s1 t ha
        obtain ⟨hvc, h⟩ := h
        obtain ⟨h1, e, he, rfl⟩ := aopT_aop ha
        obtain ⟨kn', s', ts, g1, g2, g3, g4⟩ := vcRun_runs h (kn_put hk1 h1)
        refine ⟨kn', s', e.touch s.bx :: ts, by simpa using g1, g2, by simp [g3], fun τ hτ => ⟨vc, s1, by simp [astep, ho, hg, h1], hvc, ?_, g4 τ fun k j hj => by simpa using hτ (k + 1) j (by simpa using hj)⟩⟩
        have := hτ 0 i rfl
        rw [this]
        simp [touch, ho, hg, he]
      · exact h.elim
    have no : ∀ {o : Oper} {kn1 : Kn}, ops[i]? = some o → gv ops s o = some false → KnOK kn1 s → (match dstIn n o with
        | true => vcRun P Γ n ops R (knPut kn1 o.dst none) (s.put o.dst (.tup [])) (([], []) :: acc) Q
        | false => False) → Ran P Γ n ops (i :: R) s acc Q := by
      intro o kn1 ho hg hk1 h
      split at h
      · rename_i hd
        obtain ⟨kn', s', ts, g1, g2, g3, g4⟩ := vcRun_runs h (kn_skip hk1 o.dst)
        refine ⟨kn', s', ([], []) :: ts, by simpa using g1, g2, by simp [g3], fun τ hτ => ⟨True, _, by simp only [astep, ho, hg, hd, if_true], trivial, ?_, g4 τ fun k j hj => by simpa using hτ (k + 1) j (by simpa using hj)⟩⟩
        have := hτ 0 i rfl
        rw [this]
        simp [touch, ho, hg]
      · exact h.elim
    unfold vcRun at h
    split at h
    · exact h.elim
    · rename_i o ho
      split at h
      · exact h.elim
      · rename_i hg
        have hgv : gv ops s o = some true := by
          unfold gd at hg
          unfold gv
          cases hgu : o.guard with
          | none => rfl
          | some jw =>
            obtain ⟨j, want⟩ := jw
            rw [hgu] at hg
            simp only at hg ⊢
            cases ht : (ops[j]?).bind (·.dst) with
            | none => rw [ht] at hg; cases hg
            | some t =>
              rw [ht] at hg
              simp only at hg ⊢
              cases hkt : kn t with
              | some b =>
                rw [hkt] at hg
                simp only at hg
                split at hg
                · rename_i hbw
                  subst hbw
                  have hb := hk t b hkt
                  split
                  · rename_i hs; rw [hs] at hb; simp [AV.bool?] at hb
                  · rw [hb]; simp
                · cases hg
              | none =>
                rw [hkt] at hg
                simp only at hg
                split at hg <;> cases hg
        exact yes ho hgv hk h
      · rename_i hg
        have hgv : gv ops s o = some false := by
          unfold gd at hg
          unfold gv
          cases hgu : o.guard with
          | none => rw [hgu] at hg; cases hg
          | some jw =>
            obtain ⟨j, want⟩ := jw
            rw [hgu] at hg
            simp only at hg ⊢
            cases ht : (ops[j]?).bind (·.dst) with
            | none => rw [ht] at hg; cases hg
            | some t =>
              rw [ht] at hg
              simp only at hg ⊢
              cases hkt : kn t with
              | some b =>
                rw [hkt] at hg
                simp only at hg
                split at hg
                · cases hg
                · rename_i hbw
                  have hb := hk t b hkt
                  split
                  · rfl
                  · rw [hb]; simp [hbw]
              | none =>
                rw [hkt] at hg
                simp only at hg
                split at hg
                · rename_i hs; simp [hs]
                · cases hg
                · cases hg
                · cases hg
        exact no ho hgv hk h
      · rename_i t b want hg
        have hgt : ∃ j, o.guard = some (j, want) ∧ (ops[j]?).bind (·.dst) = some t ∧ (s.tm t).bool? = some b := by
          unfold gd at hg
          cases hgu : o.guard with
          | none => rw [hgu] at hg; cases hg
          | some jw =>
            obtain ⟨j, want'⟩ := jw
            rw [hgu] at hg
            simp only at hg
            cases ht : (ops[j]?).bind (·.dst) with
            | none => rw [ht] at hg; cases hg
            | some t' =>
              rw [ht] at hg
              simp only at hg
              cases hkt : kn t' with
              | some b' => rw [hkt] at hg; simp only at hg; split at hg <;> cases hg
              | none =>
                rw [hkt] at hg
                simp only at hg
                split at hg
                · cases hg
                · rename_i b' hs
                  simp only [Gd.ask.injEq] at hg
                  obtain ⟨rfl, rfl, rfl⟩ := hg
                  exact ⟨j, rfl, ht, by rw [hs]; rfl⟩
                · rename_i b' hs
                  simp only [Gd.ask.injEq] at hg
                  obtain ⟨rfl, rfl, rfl⟩ := hg
                  exact ⟨j, rfl, ht, by rw [hs]; rfl⟩
                · cases hg
        obtain ⟨j, h1, h2, h3⟩ := hgt
        have hgv : gv ops s o = some (b == want) := by
          unfold gv
          rw [h1]
          simp only [h2]
          split
          · rename_i hs; rw [hs] at h3; simp [AV.bool?] at h3
          · rw [h3]; simp
        by_cases hbw : b = want
        · subst hbw
          rw [fix_same h3] at h
          exact yes ho (hgv.trans (by simp)) (kn_fix hk h3) (h.1 rfl)
        · have hbn : b = !want := by cases b <;> cases want <;> simp_all
          subst hbn
          rw [fix_same h3] at h
          exact no ho (hgv.trans (by cases want <;> rfl)) (kn_fix hk h3) (h.2 rfl)
end
end Go.Proofs.Ytoljdijpmnadpaa
